/- fareboxlaw21.RulesShares, a law of Leango given, returns true for every input and leaves what it reads as it was. Conditions: what it reads is of bulk at most 1,048,576 (the given 'RulesSharesUptoSaid'); no other. -/
import Derived.Test.YthbmllekbbfobaaRows
import Derived.Test.YthbmllekbbfobaaR5
import Derived.Test.YthbmllekbbfobaaSxN
import Derived.Carry
import Derived.ChangeOld
import Derived.ShutString
namespace Go.Proofs.Ythbmllekbbfobaa.rulesShares
open Go.ChangeShapes Go.WideShapes Go.ChangeAt Go.RowKit Go.Proofs.Ythbmllekbbfobaa.Sx
open Go.ChangeMaps (open_string shut_string)
set_option linter.unusedVariables false
set_option linter.unusedSimpArgs false
theorem own : ownKnob Try.prog.godebug = none := by kernel_rfl
theorem laidOut : laidOutB Try.prog = true := by kernel_rfl
set_option maxRecDepth 100000 in
theorem contract (H : Type) (enc' : TypeId × Value → H) (W : World) (base : Nat) (args : Array Value) (ds gs : List (DataW H)) (before : List MemPlace)
    (hval : ∀ (j : Nat) t v, Try.f10.params[j]? = some t → args[j]? = some v → Value.okWide Try.prog W .any base t v)
    (hW : DataW.Whole enc' Try.prog Try.f10.params.toList Rows.rulesSharesSpec.vars false W args.toList ds gs before) (hk : Rows.uptoSmall H (ds ++ gs) = true) :
    Calls Try.prog 10 args W fun e W' => ∃ v, e = .returned v ∧ Rows.rulesSharesSpec.post enc' Try.prog Try.f10 false true false false W args v W' := by
  have hW' := hW
  obtain ⟨p, q, hA0, hV, rfl, hfz, hnd⟩ := hW
  have hA : DataW.TrodAll enc' Try.prog W 0 (fun _ => true) true Try.f10.params.toList args.toList ds p := hA0
  rw [Try.params10] at hA hval
  obtain ⟨v0, vs0, d0, ds0, p0, q0', hargs, rfl, rfl, h0, r0⟩ := trodAll_cons hA
  obtain ⟨v1, vs1, d1, ds1, p1, q1', rfl, rfl, rfl, h1, r1⟩ := trodAll_cons r0
  obtain ⟨v2, vs2, d2, ds2, p2, q2', rfl, rfl, rfl, h2, r2⟩ := trodAll_cons r1
  obtain ⟨rfl, rfl, rfl⟩ := trodAll_nil r2
  obtain rfl : args = #[v0, v1, v2] := by cases args; simp_all
  obtain ⟨rfl, rfl⟩ := trodVars_none hV
  have lt0 : ∀ x ∈ p0, x.block < W.heap.size := by obtain ⟨m, hm⟩ := h0; exact DataW.trod_lt m _ _ _ hm
  have lt1 : ∀ x ∈ p1, x.block < W.heap.size := by obtain ⟨m, hm⟩ := h1; exact DataW.trod_lt m _ _ _ hm
  have lt2 : ∀ x ∈ p2, x.block < W.heap.size := by obtain ⟨m, hm⟩ := h2; exact DataW.trod_lt m _ _ _ hm
  have hb : Rows.uptoBulkAll ([d0, d1, d2] ++ []) ≤ 1048576 := of_decide_eq_true hk
  simp only [List.append_nil, Rows.uptoBulkAll] at hb
  have g0 := h0
  have g1 := h1
  have g2 := h2
  obtain ⟨a0, rfl, rfl, rfl, w0⟩ := open_int Try.underlying3 (hval 0 3 v0 rfl rfl) h0
  obtain ⟨x1, cs1, hcs1, len1, cv1, b1, i1⟩ := open_deep (n := 6) (kd := (fun t => if t = 88 then some .rule else if t = 90 then some .journey else if t = 3 then some .int else none)) .rule (by kernel_rfl) (by kernel_rfl) (hval 1 88 v1 rfl rfl) h1
  obtain ⟨u1_0, e1_0, c1_0⟩ := cv1 0 _ rfl
  obtain ⟨u1_1, e1_1, c1_1⟩ := cv1 1 _ rfl
  obtain ⟨u1_2, e1_2, c1_2⟩ := cv1 2 _ rfl
  obtain ⟨q1_2, o1_2, s1_2⟩ := cv_slice c1_2
  have S1 : ∀ m : Nat → Sx.Place, m 0 = q1_2 →  V m (.agg [.val (.int .i64 x1.owner), .val (.int .i64 x1.op), .slF 0]) v1 := by
    intro m m2
    rw [hcs1]
    refine deep_V len1 ?_
    exact fun j s hj => match j, s, hj with
      | 0, s, hj => by obtain rfl := Option.some.inj hj; exact ⟨_, e1_0, cv_v c1_0 m⟩
      | 1, s, hj => by obtain rfl := Option.some.inj hj; exact ⟨_, e1_1, cv_v c1_1 m⟩
      | 2, s, hj => by obtain rfl := Option.some.inj hj; exact ⟨_, e1_2, s1_2 m _ m2⟩
  obtain ⟨a2, i2, s2⟩ := open_plain (n := 4) .journey (by kernel_rfl) (by kernel_rfl) (hval 2 90 v2 rfl rfl) h2
  clear hA0 hk
  simp only [List.append_nil] at hW'
  refine (law_calls ok_fareboxlaw21_RulesShares [.val (.int .i64 a0), .agg [.val (.int .i64 x1.owner), .val (.int .i64 x1.op), .slF 0], .agg (plainSV (enc .journey a2))] [(q1_2, VB.row false .int x1.weights)] #[.int .i64 a0, v1, v2] W ?_ (by simp) (.cons _ _ _ _ (.val _) (.cons _ _ _ _ (S1 _ rfl) (.cons _ _ _ _ (s2 _) .nil))) ?_ ?_).mono fun e W' ⟨he, bel⟩ => ?_
  · intro q hq
    simp only [List.mem_cons, List.not_mem_nil, or_false] at hq
    subst hq
    exact ⟨_, _, rfl, o1_2⟩
  · intro b hb
    simp [idsL, SV.ids, plainSV, enc] at hb ⊢
    try omega
  · exact .mkVc _ _ _ ⟨(wf64 w0).1, (wf64 w0).2, by have hw := b1; simp only [wt, wt_rule, wt_ints] at hw; (try simp only); omega, fun n hn => (InC.row (i1 (.s .int x1.weights) (by simp [enc])) n hn _ (by simp [enc])).i64⟩
  · subst he
    exact ⟨_, rfl, _, _, _, [], _, [], hW', trodAll_mk1 (shut_bool Try.underlying4 _), (trodAll_cons_mk (Below.trod laidOut (by kernel_rfl) (of_decide_eq_true (by kernel_rfl)) g0 bel lt0) (trodAll_cons_mk (Below.trod laidOut (by kernel_rfl) (of_decide_eq_true (by kernel_rfl)) g1 bel lt1) (trodAll_cons_mk (Below.trod laidOut (by kernel_rfl) (of_decide_eq_true (by kernel_rfl)) g2 bel lt2) trodAll_mk0))), rfl, bel.frame _, fun h => by cases h⟩
set_option maxRecDepth 100000 in
theorem lifted (os : Os) (started : os.Started) (H : Type) (enc' : TypeId × Value → H) (F : Stop.Interp) :
    ReturnsInHanded {} Try.checked os 10 .any ((Rows.OpenSpec.upto Rows.rulesSharesSpec).pre6 enc' Try.prog Try.f10 Rows.rulesSharesUptoRow.domain false) (((Rows.OpenSpec.upto Rows.rulesSharesSpec).at F).post enc' Try.prog Try.f10 false true false false) := by
  refine returnsInHanded_of_cond (C := Try.checked) (s := Rows.OpenSpec.upto Rows.rulesSharesSpec) (k := Rows.uptoSmall) rfl own started (by kernel_rfl) Try.func10
    (OpenSpec.witness (enc := enc') (C := Try.checked) (s := Rows.OpenSpec.upto Rows.rulesSharesSpec) (k := Rows.uptoSmall) rfl false ⟨#[], #[.int .i64 0, .agg #[.int .i64 0, .int .i64 0, .slice none 0 0], .agg #[.int .i64 0, .int .i64 0, .int .i64 0, .int .i64 0, .int .i64 0, .int .i64 0, .int .i64 0, .int .i64 0, .int .i64 0, .int .i64 0]], []⟩ 8 (by kernel_rfl) (by kernel_rfl) (by kernel_rfl)
      (x := ([.lit (.int .i64 0), .agg [.lit (.int .i64 0), .lit (.int .i64 0), .nil], .agg [.lit (.int .i64 0), .lit (.int .i64 0), .lit (.int .i64 0), .lit (.int .i64 0), .lit (.int .i64 0), .lit (.int .i64 0), .lit (.int .i64 0), .lit (.int .i64 0), .lit (.int .i64 0), .lit (.int .i64 0)]], [], [])) (by kernel_rfl) rfl (by kernel_rfl)) ?_
  intro W base args ds gs before hval hW _ hk _
  exact contract H enc' W base args ds gs before hval hW hk
theorem proved : Rows.RulesSharesUptoSaid :=
  OpenClaim.holds_of_cond 10 Try.f10 rfl rfl rfl rfl rfl rfl rfl ⟨rfl, rfl, rfl, rfl, rfl⟩ rfl rfl rfl rfl rfl (by kernel_rfl) Try.func10 (by kernel_rfl)
    (of_decide_eq_true (by kernel_rfl)) (by unfold Func.isWrapper; first | (rw [if_pos (by decide +kernel)]; kernel_rfl) | (rw [if_neg (by decide +kernel)]; exact ⟨rfl, rfl⟩))
    (fun os started H enc' _ F => lifted os started H enc' F)
#print axioms proved
end Go.Proofs.Ythbmllekbbfobaa.rulesShares
namespace Go.Proofs.Ythbmllekbbfobaa
theorem rulesShares_holds : Rows.RulesSharesUptoSaid := rulesShares.proved
end Go.Proofs.Ythbmllekbbfobaa
