import Derived.Test.YthbmllekbbfobaaProg
import Derived.Test.YthbmllekbbfobaaSxU
import Derived.IntWalk
import Derived.Test.YthbmllekbbfobaaI1c0
/-! ipe, numbers -/
namespace Go.Proofs.Ythbmllekbbfobaa.Sx
open Go
set_option linter.unusedVariables false
set_option linter.unusedSimpArgs false
set_option maxRecDepth 100000

def T_ipe_numbers : TT := [(3, ⟨.int .i64, 1, 8, [.int .i64 0], some .int⟩),
  (4, ⟨.bool, 1, 1, [.bool false], some .bool⟩),
  (41, ⟨.slice 3, 1, 24, [.slice none 0 0], none⟩),
  (56, ⟨.int .i64, 1, 8, [.int .i64 0], some .int⟩),
  (58, ⟨.strct [(0, 56), (1, 3), (2, 3), (3, 3), (4, 3), (5, 3), (6, 3), (7, 3), (8, 4), (9, 3), (10, 3), (11, 3), (12, 3), (13, 4)], 14, 112, [.int .i64 0, .int .i64 0, .int .i64 0, .int .i64 0, .int .i64 0, .int .i64 0, .int .i64 0, .int .i64 0, .bool false, .int .i64 0, .int .i64 0, .int .i64 0, .int .i64 0, .bool false], some .product⟩),
  (126, ⟨.ptr, 1, 8, [.pointer none], none⟩),
  (205, ⟨.slice 213, 1, 24, [.slice none 0 0], none⟩),
  (207, ⟨.ptr, 1, 8, [.pointer none], none⟩),
  (213, ⟨.strct [(0, 126), (1, 3), (2, 3)], 3, 24, [.pointer none, .int .i64 0, .int .i64 0], none⟩)]
theorem tOk_ipe_numbers : TOk Try.prog T_ipe_numbers := tOk_of (by kernel_rfl)
def sp_ipe_numbers : Spec := fun args hp => match args, hp with
  | [.agg p_cs], [] => (match decS .product p_cs with
    | some p => .ok (.tup [.slF 2000, bv (rightP p)]) [(2000, some (.row true .int (numsP p)))]
    | none => .fail "struct")
  | _, _ => .fail "ipe_numbers"
abbrev k_ipe_numbers : List (Option RK) := [none]
def a_ipe_numbers : List SV → List (Nat × VB) → Anns := fun args hp => match args, hp with
  | [.agg p_cs], [] => (match decS .product p_cs with
    | some p => [(5, fun S => .inv [] [] [] fun ids vs rs => { cars := [.i 21 .i64, .r 7 true .int, .b 8], inv := fun ((i, ns, ok, _) : Int × List Int × Bool × Unit) => INp p i ns ok, mu := fun ((i, ns, ok, _) : Int × List Int × Bool × Unit) => 14 - i.toNat })]
    | none => [])
  | _, _ => []
set_option maxHeartbeats 20000000 in
theorem ok_ipe_numbers : GOk Try.prog 80 (lift k_ipe_numbers sp_ipe_numbers) := by
  refine pf_ok (T := T_ipe_numbers) (Γ := (124, lift k_ipe_bit sp_ipe_bit) :: (117, lift k_ipe_fields sp_ipe_fields) :: []) tOk_ipe_numbers (gOks_cons ok_ipe_bit (gOks_cons ok_ipe_fields (gOks_nil _))) mixed Try.func80 (c := body Try.f80) (by kernel_rfl) (by kernel_rfl) k_ipe_numbers sp_ipe_numbers (by kernel_rfl) (by kernel_rfl) a_ipe_numbers ?_
  intro args hp s u hfit h
  unfold sp_ipe_numbers at h
  split at h
  · rename_i p_cs
    split at h
    case h_2 => exact h.fail.elim
    rename_i p h_p
    obtain rfl := decS_ok (k := .product) rfl h_p
    clear h_p
    change Product at p
    obtain ⟨rfl, rfl⟩ := h.ok
    clear h hfit
    conv => whnf
    repeat' (first
      | (refine And.intro ?_ ?_ <;> try conv => whnf)
      | (intro hh; first | (cases hh; done) | conv => whnf))
    all_goals try first | rfl | kernel_rfl
    all_goals try simp only [decide_eq_true_eq, decide_eq_false_iff_not] at *
    all_goals try simp only [Key_eta, Share_eta, Journey_eta, Batch_eta, FieldT_eta, OpB_eta, Product_eta, Item_eta, Delta_eta, Elem_eta, Rule_eta, Do10_eta, Key_beq, Share_beq, Journey_beq, FieldT_beq, Product_beq, Item_beq, Do10_beq, toNat0, toNat1, toNat2, toNat3, toNat4, toNat5, toNat6, toNat7, toNat8, toNat9, toNat10, toNat11, toNat12, toNat13, toNat14, toNat15, toNat16, toNat17, toNat18, toNat19, iA, iOf, atS, rwA, castK, zK, true_and, and_true, decide_eq_true_eq, decide_eq_false_iff_not, beq_iff_eq, bne_iff_ne, beq_eq_false_iff_ne, bne_eq_false_iff_eq, Bool.not_eq_true', Bool.not_eq_false', Bool.not_eq_true, Bool.not_eq_false, Nat.succ_eq_add_one, Int.not_lt, Int.not_le, gt_iff_lt, ge_iff_le, show bytesS T_ipe_numbers 41 = 8 from rfl, show bytesS T_ipe_numbers 205 = 24 from rfl] at *
    all_goals try (
      have hex := ‹INp _ _ _ _›
      obtain ⟨j, hj, rfl, rfl, rfl⟩ := hex)
    all_goals try (refine Vc.mk ?_; first | omega | (simp only [List.length_take, List.length_cons, List.length_nil]; omega))
    · exact ⟨⟨0, by omega, rfl, rfl, rfl⟩⟩
    all_goals try (
      have hk := Int.ofNat.inj ‹(j : Int) = ((_ : Nat) : Int)›
      try simp only [Nat.reduceAdd] at hk)
    all_goals try (
      have hk : j = 13 := by omega)
    all_goals try (
      have hnd : j = 14 := by omega
      subst hnd
      exact Res.mk ⟨rfl, rfl⟩)
    all_goals (
      refine ⟨⟨j + 1, by omega, by rw [wrap64] <;> omega, ?_, ?_⟩, by rw [wrap64] <;> omega⟩
      · subst hk; rfl
      · subst hk
        rw [okUp, okN]
        generalize okUp (numsP p) _ = B at *
        first | (simp [loP, hiP, numsP, *]; done) | (simp [loP, hiP, numsP, *]; omega) | (trace_state; sorry))
  · exact h.fail.elim

end Go.Proofs.Ythbmllekbbfobaa.Sx
