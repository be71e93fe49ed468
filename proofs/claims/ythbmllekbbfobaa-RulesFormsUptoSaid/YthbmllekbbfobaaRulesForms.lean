/- fareboxlaw21.RulesForms, a law of Leango given, returns true for every input and leaves what it reads as it was. Conditions: what it reads is of bulk at most 1,048,576 (the given 'RulesFormsUptoSaid'); no other. -/
import Derived.Test.YthbmllekbbfobaaRows
import Derived.Test.YthbmllekbbfobaaR7
import Derived.Test.YthbmllekbbfobaaSxN
import Derived.Carry
import Derived.ChangeOld
import Derived.ShutString
namespace Go.Proofs.Ythbmllekbbfobaa.rulesForms
open Go.ChangeShapes Go.WideShapes Go.ChangeAt Go.RowKit Go.Proofs.Ythbmllekbbfobaa.Sx
open Go.ChangeMaps (open_string shut_string)
set_option linter.unusedVariables false
set_option linter.unusedSimpArgs false
theorem own : ownKnob Try.prog.godebug = none := by kernel_rfl
theorem laidOut : laidOutB Try.prog = true := by kernel_rfl
set_option maxRecDepth 100000 in
theorem contract (H : Type) (enc' : TypeId × Value → H) (W : World) (base : Nat) (args : Array Value) (ds gs : List (DataW H)) (before : List MemPlace)
    (hval : ∀ (j : Nat) t v, Try.f13.params[j]? = some t → args[j]? = some v → Value.okWide Try.prog W .any base t v)
    (hW : DataW.Whole enc' Try.prog Try.f13.params.toList Rows.rulesFormsSpec.vars false W args.toList ds gs before) (hk : Rows.uptoSmall H (ds ++ gs) = true) :
    Calls Try.prog 13 args W fun e W' => ∃ v, e = .returned v ∧ Rows.rulesFormsSpec.post enc' Try.prog Try.f13 false true false false W args v W' := by
  have hW' := hW
  obtain ⟨p, q, hA0, hV, rfl, hfz, hnd⟩ := hW
  have hA : DataW.TrodAll enc' Try.prog W 0 (fun _ => true) true Try.f13.params.toList args.toList ds p := hA0
  rw [Try.params13] at hA hval
  obtain ⟨v0, vs0, d0, ds0, p0, q0', hargs, rfl, rfl, h0, r0⟩ := trodAll_cons hA
  obtain ⟨v1, vs1, d1, ds1, p1, q1', rfl, rfl, rfl, h1, r1⟩ := trodAll_cons r0
  obtain ⟨rfl, rfl, rfl⟩ := trodAll_nil r1
  obtain rfl : args = #[v0, v1] := by cases args; simp_all
  obtain ⟨rfl, rfl⟩ := trodVars_none hV
  have lt0 : ∀ x ∈ p0, x.block < W.heap.size := by obtain ⟨m, hm⟩ := h0; exact DataW.trod_lt m _ _ _ hm
  have lt1 : ∀ x ∈ p1, x.block < W.heap.size := by obtain ⟨m, hm⟩ := h1; exact DataW.trod_lt m _ _ _ hm
  have hb : Rows.uptoBulkAll ([d0, d1] ++ []) ≤ 1048576 := of_decide_eq_true hk
  simp only [List.append_nil, Rows.uptoBulkAll] at hb
  have g0 := h0
  have g1 := h1
  obtain ⟨x0, cs0, hcs0, len0, cv0, b0, i0⟩ := open_deep (n := 6) (kd := (fun t => if t = 88 then some .rule else if t = 90 then some .journey else if t = 3 then some .int else none)) .rule (by kernel_rfl) (by kernel_rfl) (hval 0 88 v0 rfl rfl) h0
  obtain ⟨u0_0, e0_0, c0_0⟩ := cv0 0 _ rfl
  obtain ⟨u0_1, e0_1, c0_1⟩ := cv0 1 _ rfl
  obtain ⟨u0_2, e0_2, c0_2⟩ := cv0 2 _ rfl
  obtain ⟨q0_2, o0_2, s0_2⟩ := cv_slice c0_2
  have S0 : ∀ m : Nat → Sx.Place, m 0 = q0_2 →  V m (.agg [.val (.int .i64 x0.owner), .val (.int .i64 x0.op), .slF 0]) v0 := by
    intro m m2
    rw [hcs0]
    refine deep_V len0 ?_
    exact fun j s hj => match j, s, hj with
      | 0, s, hj => by obtain rfl := Option.some.inj hj; exact ⟨_, e0_0, cv_v c0_0 m⟩
      | 1, s, hj => by obtain rfl := Option.some.inj hj; exact ⟨_, e0_1, cv_v c0_1 m⟩
      | 2, s, hj => by obtain rfl := Option.some.inj hj; exact ⟨_, e0_2, s0_2 m _ m2⟩
  obtain ⟨q1, a1, o1, s1, b1, i1⟩ := open_row (n := 4) .u8 Try.underlying25 (by kernel_rfl) (by kernel_rfl) rfl (by decide) (hval 1 25 v1 rfl rfl) h1
  clear hA0 hk
  simp only [List.append_nil] at hW'
  refine (law_calls ok_fareboxlaw21_RulesForms [.agg [.val (.int .i64 x0.owner), .val (.int .i64 x0.op), .slF 0], .slF 1] [(q0_2, VB.row false .int x0.weights), (q1, VB.row false .u8 a1)] #[v0, v1] W ?_ (by simp) (.cons _ _ _ _ (S0 _ rfl) (.cons _ _ _ _ (s1 _ _ rfl) .nil)) ?_ ?_).mono fun e W' ⟨he, bel⟩ => ?_
  · intro q hq
    simp only [List.mem_cons, List.not_mem_nil, or_false] at hq
    rcases hq with rfl | rfl
    · exact ⟨_, _, rfl, o0_2⟩
    · exact ⟨_, _, rfl, o1⟩
  · intro b hb
    simp [idsL, SV.ids, plainSV, enc] at hb ⊢
    try omega
  · exact .mkVc _ _ _ ⟨by omega, fun x hx => (i1 x hx).u8, by have hw := b0; simp only [wt, wt_rule, wt_ints] at hw; (try simp only); omega, fun n hn => (InC.row (i0 (.s .int x0.weights) (by simp [enc])) n hn _ (by simp [enc])).i64⟩
  · subst he
    exact ⟨_, rfl, _, _, _, [], _, [], hW', trodAll_mk1 (shut_bool Try.underlying4 _), (trodAll_cons_mk (Below.trod laidOut (by kernel_rfl) (of_decide_eq_true (by kernel_rfl)) g0 bel lt0) (trodAll_cons_mk (Below.trod laidOut (by kernel_rfl) (of_decide_eq_true (by kernel_rfl)) g1 bel lt1) trodAll_mk0)), rfl, bel.frame _, fun h => by cases h⟩
set_option maxRecDepth 100000 in
theorem lifted (os : Os) (started : os.Started) (H : Type) (enc' : TypeId × Value → H) (F : Stop.Interp) :
    ReturnsInHanded {} Try.checked os 13 .any ((Rows.OpenSpec.upto Rows.rulesFormsSpec).pre6 enc' Try.prog Try.f13 Rows.rulesFormsUptoRow.domain false) (((Rows.OpenSpec.upto Rows.rulesFormsSpec).at F).post enc' Try.prog Try.f13 false true false false) := by
  refine returnsInHanded_of_cond (C := Try.checked) (s := Rows.OpenSpec.upto Rows.rulesFormsSpec) (k := Rows.uptoSmall) rfl own started (by kernel_rfl) Try.func13
    (OpenSpec.witness (enc := enc') (C := Try.checked) (s := Rows.OpenSpec.upto Rows.rulesFormsSpec) (k := Rows.uptoSmall) rfl false ⟨#[], #[.agg #[.int .i64 0, .int .i64 0, .slice none 0 0], .slice none 0 0], []⟩ 8 (by kernel_rfl) (by kernel_rfl) (by kernel_rfl)
      (x := ([.agg [.lit (.int .i64 0), .lit (.int .i64 0), .nil], .nil], [], [])) (by kernel_rfl) rfl (by kernel_rfl)) ?_
  intro W base args ds gs before hval hW _ hk _
  exact contract H enc' W base args ds gs before hval hW hk
theorem proved : Rows.RulesFormsUptoSaid :=
  OpenClaim.holds_of_cond 13 Try.f13 rfl rfl rfl rfl rfl rfl rfl ⟨rfl, rfl, rfl, rfl, rfl⟩ rfl rfl rfl rfl rfl (by kernel_rfl) Try.func13 (by kernel_rfl)
    (of_decide_eq_true (by kernel_rfl)) (by unfold Func.isWrapper; first | (rw [if_pos (by decide +kernel)]; kernel_rfl) | (rw [if_neg (by decide +kernel)]; exact ⟨rfl, rfl⟩))
    (fun os started H enc' _ F => lifted os started H enc' F)
#print axioms proved
end Go.Proofs.Ythbmllekbbfobaa.rulesForms
namespace Go.Proofs.Ythbmllekbbfobaa
theorem rulesForms_holds : Rows.RulesFormsUptoSaid := rulesForms.proved
end Go.Proofs.Ythbmllekbbfobaa
