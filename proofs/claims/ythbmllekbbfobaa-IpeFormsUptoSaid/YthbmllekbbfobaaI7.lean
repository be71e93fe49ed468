import Derived.Test.YthbmllekbbfobaaProg
import Derived.Test.YthbmllekbbfobaaSxU
import Derived.IntWalk
import Derived.Test.YthbmllekbbfobaaI7r
/-! ipe, Parse, pure -/
namespace Go.Proofs.Ythbmllekbbfobaa.Sx
open Go
set_option linter.unusedVariables false
set_option linter.unusedSimpArgs false
set_option maxRecDepth 100000

def T_fareboxref10_Numbers : TT := [(3, ⟨.int .i64, 1, 8, [.int .i64 0], some .int⟩),
  (4, ⟨.bool, 1, 1, [.bool false], some .bool⟩),
  (41, ⟨.slice 3, 1, 24, [.slice none 0 0], none⟩),
  (56, ⟨.int .i64, 1, 8, [.int .i64 0], some .int⟩),
  (58, ⟨.strct [(0, 56), (1, 3), (2, 3), (3, 3), (4, 3), (5, 3), (6, 3), (7, 3), (8, 4), (9, 3), (10, 3), (11, 3), (12, 3), (13, 4)], 14, 112, [.int .i64 0, .int .i64 0, .int .i64 0, .int .i64 0, .int .i64 0, .int .i64 0, .int .i64 0, .int .i64 0, .bool false, .int .i64 0, .int .i64 0, .int .i64 0, .int .i64 0, .bool false], some .product⟩)]
theorem tOk_fareboxref10_Numbers : TOk Try.prog T_fareboxref10_Numbers := tOk_of (by kernel_rfl)
def sp_fareboxref10_Numbers : Spec := fun args hp => match args, hp with
  | [.agg p_cs], [] => (match decS .product p_cs with
    | some p => .ok (.slF 2000) [(2000, some (.row true .int (numsP p)))]
    | none => .fail "struct")
  | _, _ => .fail "fareboxref10_Numbers"
abbrev k_fareboxref10_Numbers : List (Option RK) := [none]
def a_fareboxref10_Numbers : List SV → List (Nat × VB) → Anns := fun _ _ => []
set_option maxHeartbeats 20000000 in
theorem ok_fareboxref10_Numbers : GOk Try.prog 84 (lift k_fareboxref10_Numbers sp_fareboxref10_Numbers) := by
  refine pf_ok (T := T_fareboxref10_Numbers) (Γ := []) tOk_fareboxref10_Numbers (gOks_nil _) mixed Try.func84 (c := body Try.f84) (by kernel_rfl) (by kernel_rfl) k_fareboxref10_Numbers sp_fareboxref10_Numbers (by kernel_rfl) (by kernel_rfl) a_fareboxref10_Numbers ?_
  intro args hp s u hfit h
  unfold sp_fareboxref10_Numbers at h
  split at h
  · rename_i p_cs
    split at h
    case h_2 => exact h.fail.elim
    rename_i p h_p
    obtain rfl := decS_ok (k := .product) rfl h_p
    clear h_p
    change Product at p
    obtain ⟨rfl, rfl⟩ := h.ok
    clear h hfit
    conv => whnf
    repeat' (first
      | (refine And.intro ?_ ?_ <;> try conv => whnf)
      | (intro hh; first | (cases hh; done) | conv => whnf))
    all_goals try first | rfl | kernel_rfl
    all_goals try simp only [decide_eq_true_eq, decide_eq_false_iff_not] at *
    all_goals try simp only [Key_eta, Share_eta, Journey_eta, Batch_eta, FieldT_eta, OpB_eta, Product_eta, Item_eta, Delta_eta, Elem_eta, Rule_eta, Do10_eta, Key_beq, Share_beq, Journey_beq, FieldT_beq, Product_beq, Item_beq, Do10_beq, toNat0, toNat1, toNat2, toNat3, toNat4, toNat5, toNat6, toNat7, toNat8, toNat9, toNat10, toNat11, toNat12, toNat13, toNat14, toNat15, toNat16, toNat17, toNat18, toNat19, iA, iOf, atS, rwA, castK, zK, true_and, and_true, decide_eq_true_eq, decide_eq_false_iff_not, beq_iff_eq, bne_iff_ne, beq_eq_false_iff_ne, bne_eq_false_iff_eq, Bool.not_eq_true', Bool.not_eq_false', Bool.not_eq_true, Bool.not_eq_false, Nat.succ_eq_add_one, Int.not_lt, Int.not_le, gt_iff_lt, ge_iff_le, show bytesS T_fareboxref10_Numbers 41 = 8 from rfl] at *
    all_goals (refine Res.mk ?_; simp [numsP, b2i, *])
  · exact h.fail.elim

def T_fareboxref10_Right : TT := [(3, ⟨.int .i64, 1, 8, [.int .i64 0], some .int⟩),
  (4, ⟨.bool, 1, 1, [.bool false], some .bool⟩),
  (41, ⟨.slice 3, 1, 24, [.slice none 0 0], none⟩),
  (56, ⟨.int .i64, 1, 8, [.int .i64 0], some .int⟩),
  (58, ⟨.strct [(0, 56), (1, 3), (2, 3), (3, 3), (4, 3), (5, 3), (6, 3), (7, 3), (8, 4), (9, 3), (10, 3), (11, 3), (12, 3), (13, 4)], 14, 112, [.int .i64 0, .int .i64 0, .int .i64 0, .int .i64 0, .int .i64 0, .int .i64 0, .int .i64 0, .int .i64 0, .bool false, .int .i64 0, .int .i64 0, .int .i64 0, .int .i64 0, .bool false], some .product⟩)]
theorem tOk_fareboxref10_Right : TOk Try.prog T_fareboxref10_Right := tOk_of (by kernel_rfl)
def sp_fareboxref10_Right : Spec := fun args hp => match args, hp with
  | [.agg p_cs], [] => (match decS .product p_cs with
    | some p => .ok (bv (rightP p)) []
    | none => .fail "struct")
  | _, _ => .fail "fareboxref10_Right"
abbrev k_fareboxref10_Right : List (Option RK) := [none]
def a_fareboxref10_Right : List SV → List (Nat × VB) → Anns := fun args hp => match args, hp with
  | [.agg p_cs], [] => (match decS .product p_cs with
    | some p => [(4, fun S => .inv [] [] [] fun ids vs rs => { cars := [.i 5 .i64], inv := fun ((i, _) : Int × Unit) => IRr p i, mu := fun ((i, _) : Int × Unit) => 14 - i.toNat })]
    | none => [])
  | _, _ => []
set_option maxHeartbeats 20000000 in
theorem ok_fareboxref10_Right : GOk Try.prog 29 (lift k_fareboxref10_Right sp_fareboxref10_Right) := by
  refine pf_ok (T := T_fareboxref10_Right) (Γ := (84, lift k_fareboxref10_Numbers sp_fareboxref10_Numbers) :: []) tOk_fareboxref10_Right (gOks_cons ok_fareboxref10_Numbers (gOks_nil _)) mixed Try.func29 (c := body Try.f29) (by kernel_rfl) (by kernel_rfl) k_fareboxref10_Right sp_fareboxref10_Right (by kernel_rfl) (by kernel_rfl) a_fareboxref10_Right ?_
  intro args hp s u hfit h
  unfold sp_fareboxref10_Right at h
  split at h
  · rename_i p_cs
    split at h
    case h_2 => exact h.fail.elim
    rename_i p h_p
    obtain rfl := decS_ok (k := .product) rfl h_p
    clear h_p
    change Product at p
    obtain ⟨rfl, rfl⟩ := h.ok
    clear h hfit
    conv => whnf
    repeat' (first
      | (refine And.intro ?_ ?_ <;> try conv => whnf)
      | (intro hh; first | (cases hh; done) | conv => whnf))
    all_goals try first | rfl | kernel_rfl
    all_goals try simp only [decide_eq_true_eq, decide_eq_false_iff_not] at *
    all_goals try simp only [Key_eta, Share_eta, Journey_eta, Batch_eta, FieldT_eta, OpB_eta, Product_eta, Item_eta, Delta_eta, Elem_eta, Rule_eta, Do10_eta, Key_beq, Share_beq, Journey_beq, FieldT_beq, Product_beq, Item_beq, Do10_beq, toNat0, toNat1, toNat2, toNat3, toNat4, toNat5, toNat6, toNat7, toNat8, toNat9, toNat10, toNat11, toNat12, toNat13, toNat14, toNat15, toNat16, toNat17, toNat18, toNat19, iA, iOf, atS, rwA, castK, zK, true_and, and_true, decide_eq_true_eq, decide_eq_false_iff_not, beq_iff_eq, bne_iff_ne, beq_eq_false_iff_ne, bne_eq_false_iff_eq, Bool.not_eq_true', Bool.not_eq_false', Bool.not_eq_true, Bool.not_eq_false, Nat.succ_eq_add_one, Int.not_lt, Int.not_le, gt_iff_lt, ge_iff_le, show bytesS T_fareboxref10_Right 41 = 8 from rfl] at *
    all_goals have h14 : (numsP p).length = 14 := rfl
    all_goals try (
      have hex := ‹IRr _ _›
      obtain ⟨j, hj, rfl, ho⟩ := hex
      try simp only [Int.toNat_natCast] at *)
    all_goals try (refine Vc.mk ?_; first | omega | (simp only [List.length_cons, List.length_nil]; omega))
    all_goals try (exact ⟨⟨0, by omega, rfl, rfl⟩⟩)
    all_goals try (
      obtain rfl : j = 14
      · omega
      exact Res.mk ho.symm)
    all_goals have hN := okN_iff (ns := numsP p) (k := j) (by omega)
    all_goals try (
      refine Res.mk (bad_right (k := j) (by omega) (fun h => ?_))
      have hq := hN.1 h
      split at hq <;> omega)
    all_goals (
      refine ⟨⟨j + 1, by omega, by rw [wrap64] <;> omega, ?_⟩, by rw [wrap64] <;> omega⟩
      rw [okUp, ho, Bool.true_and]
      refine hN.2 ⟨?_, by assumption⟩
      split <;> omega)
  · exact h.fail.elim

end Go.Proofs.Ythbmllekbbfobaa.Sx
