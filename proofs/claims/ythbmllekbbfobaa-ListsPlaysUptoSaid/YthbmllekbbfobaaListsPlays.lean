/- fareboxlaw12.ListsPlays, a law of Leango given, returns true for every input and leaves what it reads as it was. Conditions: what it reads is of bulk at most 1,048,576 (the given 'ListsPlaysUptoSaid'); no other. -/
import Derived.Test.YthbmllekbbfobaaRows
import Derived.Test.YthbmllekbbfobaaL13
import Derived.Test.YthbmllekbbfobaaSxN
import Derived.Carry
import Derived.ChangeOld
import Derived.ShutString
namespace Go.Proofs.Ythbmllekbbfobaa.listsPlays
open Go.ChangeShapes Go.WideShapes Go.ChangeAt Go.RowKit Go.Proofs.Ythbmllekbbfobaa.Sx
open Go.ChangeMaps (open_string shut_string)
set_option linter.unusedVariables false
set_option linter.unusedSimpArgs false
theorem own : ownKnob Try.prog.godebug = none := by kernel_rfl
theorem laidOut : laidOutB Try.prog = true := by kernel_rfl
set_option maxRecDepth 100000 in
theorem contract (H : Type) (enc' : TypeId × Value → H) (W : World) (base : Nat) (args : Array Value) (ds gs : List (DataW H)) (before : List MemPlace)
    (hval : ∀ (j : Nat) t v, Try.f9.params[j]? = some t → args[j]? = some v → Value.okWide Try.prog W .any base t v)
    (hW : DataW.Whole enc' Try.prog Try.f9.params.toList Rows.listsPlaysSpec.vars false W args.toList ds gs before) (hk : Rows.uptoSmall H (ds ++ gs) = true) :
    Calls Try.prog 9 args W fun e W' => ∃ v, e = .returned v ∧ Rows.listsPlaysSpec.post enc' Try.prog Try.f9 false true false false W args v W' := by
  have hW' := hW
  obtain ⟨p, q, hA0, hV, rfl, hfz, hnd⟩ := hW
  have hA : DataW.TrodAll enc' Try.prog W 0 (fun _ => true) true Try.f9.params.toList args.toList ds p := hA0
  rw [Try.params9] at hA hval
  obtain ⟨v0, vs0, d0, ds0, p0, q0', hargs, rfl, rfl, h0, r0⟩ := trodAll_cons hA
  obtain ⟨v1, vs1, d1, ds1, p1, q1', rfl, rfl, rfl, h1, r1⟩ := trodAll_cons r0
  obtain ⟨rfl, rfl, rfl⟩ := trodAll_nil r1
  obtain rfl : args = #[v0, v1] := by cases args; simp_all
  obtain ⟨rfl, rfl⟩ := trodVars_none hV
  have lt0 : ∀ x ∈ p0, x.block < W.heap.size := by obtain ⟨m, hm⟩ := h0; exact DataW.trod_lt m _ _ _ hm
  have lt1 : ∀ x ∈ p1, x.block < W.heap.size := by obtain ⟨m, hm⟩ := h1; exact DataW.trod_lt m _ _ _ hm
  have hb : Rows.uptoBulkAll ([d0, d1] ++ []) ≤ 1048576 := of_decide_eq_true hk
  simp only [List.append_nil, Rows.uptoBulkAll] at hb
  have g0 := h0
  have g1 := h1
  obtain ⟨q0, a0, o0, s0, b0, i0⟩ := open_drow (n := 6) (kd := (fun t => if t = 52 then some .item else if t = 24 then some .delta else if t = 72 then some .ask else none)) .delta Try.underlying40 (by kernel_rfl) (hval 0 40 v0 rfl rfl) h0
  obtain ⟨q1, a1, o1, s1, b1, i1⟩ := open_row (n := 4) .ask Try.underlying79 (by kernel_rfl) (by kernel_rfl) rfl (by decide) (hval 1 79 v1 rfl rfl) h1
  clear hA0 hk
  simp only [List.append_nil] at hW'
  refine (law_calls ok_fareboxlaw12_ListsPlays [.slF 0, .slF 1] [(q0, VB.row false .delta a0), (q1, VB.row false .ask a1)] #[v0, v1] W ?_ (by simp) (.cons _ _ _ _ (s0 _ _ rfl) (.cons _ _ _ _ (s1 _ _ rfl) .nil)) ?_ ?_).mono fun e W' ⟨he, bel⟩ => ?_
  · intro q hq
    simp only [List.mem_cons, List.not_mem_nil, or_false] at hq
    rcases hq with rfl | rfl
    · exact ⟨_, _, rfl, o0⟩
    · exact ⟨_, _, rfl, o1⟩
  · intro b hb
    simp [idsL, SV.ids, plainSV, enc] at hb ⊢
    try omega
  · have hd := delta_sum (N := 1048576) (ds := a0) (by omega); exact .mkVc _ _ _ ⟨hd.1, by omega, fun d h => ⟨hd.2 d h, (InC.i64 (i0 d h _ (by simp [enc]))).2⟩⟩
  · subst he
    exact ⟨_, rfl, _, _, _, [], _, [], hW', trodAll_mk1 (shut_bool Try.underlying4 _), (trodAll_cons_mk (Below.trod laidOut (by kernel_rfl) (of_decide_eq_true (by kernel_rfl)) g0 bel lt0) (trodAll_cons_mk (Below.trod laidOut (by kernel_rfl) (of_decide_eq_true (by kernel_rfl)) g1 bel lt1) trodAll_mk0)), rfl, bel.frame _, fun h => by cases h⟩
set_option maxRecDepth 100000 in
theorem lifted (os : Os) (started : os.Started) (H : Type) (enc' : TypeId × Value → H) (F : Stop.Interp) :
    ReturnsInHanded {} Try.checked os 9 .any ((Rows.OpenSpec.upto Rows.listsPlaysSpec).pre6 enc' Try.prog Try.f9 Rows.listsPlaysUptoRow.domain false) (((Rows.OpenSpec.upto Rows.listsPlaysSpec).at F).post enc' Try.prog Try.f9 false true false false) := by
  refine returnsInHanded_of_cond (C := Try.checked) (s := Rows.OpenSpec.upto Rows.listsPlaysSpec) (k := Rows.uptoSmall) rfl own started (by kernel_rfl) Try.func9
    (OpenSpec.witness (enc := enc') (C := Try.checked) (s := Rows.OpenSpec.upto Rows.listsPlaysSpec) (k := Rows.uptoSmall) rfl false ⟨#[], #[.slice none 0 0, .slice none 0 0], []⟩ 8 (by kernel_rfl) (by kernel_rfl) (by kernel_rfl)
      (x := ([.nil, .nil], [], [])) (by kernel_rfl) rfl (by kernel_rfl)) ?_
  intro W base args ds gs before hval hW _ hk _
  exact contract H enc' W base args ds gs before hval hW hk
theorem proved : Rows.ListsPlaysUptoSaid :=
  OpenClaim.holds_of_cond 9 Try.f9 rfl rfl rfl rfl rfl rfl rfl ⟨rfl, rfl, rfl, rfl, rfl⟩ rfl rfl rfl rfl rfl (by kernel_rfl) Try.func9 (by kernel_rfl)
    (of_decide_eq_true (by kernel_rfl)) (by unfold Func.isWrapper; first | (rw [if_pos (by decide +kernel)]; kernel_rfl) | (rw [if_neg (by decide +kernel)]; exact ⟨rfl, rfl⟩))
    (fun os started H enc' _ F => lifted os started H enc' F)
#print axioms proved
end Go.Proofs.Ythbmllekbbfobaa.listsPlays
namespace Go.Proofs.Ythbmllekbbfobaa
theorem listsPlays_holds : Rows.ListsPlaysUptoSaid := listsPlays.proved
end Go.Proofs.Ythbmllekbbfobaa
