import Derived.Test.YtncdakkigkmfjaaProg
import Derived.Test.YtncdakkigkmfjaaSxU
import Derived.IntWalk
import Derived.Test.YtncdakkigkmfjaaK4s0
/-! fareboxlaw09 -/
namespace Go.Proofs.Ytncdakkigkmfjaa.Sx
open Go
set_option linter.unusedVariables false
set_option linter.unusedSimpArgs false
set_option maxRecDepth 100000

def T_fareboxlaw09_KeysProducts : TT := [(3, ⟨.int .i64, 1, 8, [.int .i64 0], some .int⟩),
  (4, ⟨.bool, 1, 1, [.bool false], some .bool⟩),
  (23, ⟨.strct [(0, 3), (1, 3), (2, 3), (3, 3)], 4, 32, [.int .i64 0, .int .i64 0, .int .i64 0, .int .i64 0], some .key⟩),
  (25, ⟨.slice 23, 1, 24, [.slice none 0 0], none⟩),
  (27, ⟨.int .i64, 1, 8, [.int .i64 0], none⟩),
  (40, ⟨.int .i64, 1, 8, [.int .i64 0], none⟩),
  (42, ⟨.strct [(0, 40), (1, 3), (2, 3), (3, 3), (4, 3), (5, 3), (6, 3), (7, 3), (8, 4), (9, 3), (10, 3), (11, 3), (12, 3), (13, 4)], 14, 112, [.int .i64 0, .int .i64 0, .int .i64 0, .int .i64 0, .int .i64 0, .int .i64 0, .int .i64 0, .int .i64 0, .bool false, .int .i64 0, .int .i64 0, .int .i64 0, .int .i64 0, .bool false], some .product⟩)]
theorem tOk_fareboxlaw09_KeysProducts : TOk Try.prog T_fareboxlaw09_KeysProducts := tOk_of (by kernel_rfl)
def sp_fareboxlaw09_KeysProducts : Spec := fun args hp => match args, hp with
  | [.agg p_cs, .val (.int .i64 op), .val (.int .i64 ver)], [] => (match decS .product p_cs with
    | some p => .ok (bv true) []
    | none => .fail "struct")
  | _, _ => .fail "fareboxlaw09_KeysProducts"
abbrev k_fareboxlaw09_KeysProducts : List (Option RK) := [none, none, none]
def a_fareboxlaw09_KeysProducts : List SV → List (Nat × VB) → Anns := fun _ _ => []
set_option maxHeartbeats 20000000 in
theorem ok_fareboxlaw09_KeysProducts : GOk Try.prog 6 (lift k_fareboxlaw09_KeysProducts sp_fareboxlaw09_KeysProducts) := by
  refine pf_ok (T := T_fareboxlaw09_KeysProducts) (Γ := (15, lift k_fareboxlaw09_awake sp_fareboxlaw09_awake) :: (27, lift k_keys_Product sp_keys_Product) :: (28, lift k_keys_Batch sp_keys_Batch) :: (25, lift k_keys_From sp_keys_From) :: (23, lift k_keys_Level sp_keys_Level) :: []) tOk_fareboxlaw09_KeysProducts (gOks_cons ok_fareboxlaw09_awake (gOks_cons ok_keys_Product (gOks_cons ok_keys_Batch (gOks_cons ok_keys_From (gOks_cons ok_keys_Level (gOks_nil _)))))) mixed Try.func6 (c := body Try.f6) (by kernel_rfl) (by kernel_rfl) k_fareboxlaw09_KeysProducts sp_fareboxlaw09_KeysProducts (by kernel_rfl) (by kernel_rfl) a_fareboxlaw09_KeysProducts ?_
  intro args hp s u hfit h
  unfold sp_fareboxlaw09_KeysProducts at h
  split at h
  · rename_i p_cs op ver
    split at h
    case h_2 => exact h.fail.elim
    rename_i p h_p
    obtain rfl := decS_ok (k := .product) rfl h_p
    clear h_p
    change Product at p
    obtain ⟨rfl, rfl⟩ := h.ok
    clear h hfit
    conv => whnf
    repeat' (first
      | (refine And.intro ?_ ?_ <;> try conv => whnf)
      | (intro hh; first | (cases hh; done) | conv => whnf))
    all_goals try first | rfl | kernel_rfl
    all_goals try simp only [Key_eta, Share_eta, Journey_eta, Batch_eta, FieldT_eta, OpB_eta, Product_eta, Key_beq, Share_beq, Journey_beq, FieldT_beq, Product_beq, toNat0, toNat1, toNat2, toNat3, toNat4, toNat5, toNat6, toNat7, toNat8, toNat9, toNat10, toNat11, toNat12, toNat13, toNat14, toNat15, toNat16, toNat17, toNat18, toNat19, iA, iOf, atS, zK, true_and, and_true, decide_eq_true_eq, decide_eq_false_iff_not, beq_iff_eq, bne_iff_ne, beq_eq_false_iff_ne, bne_eq_false_iff_eq, Bool.not_eq_true', Bool.not_eq_false', Bool.not_eq_true, Bool.not_eq_false, Nat.succ_eq_add_one, Int.not_lt, Int.not_le, gt_iff_lt, ge_iff_le] at *
    all_goals first
      | (refine Vc.mk ?_; simp; done)
      | (refine Res.mk ?_; rcases prodD p op ver with a1 | ⟨a1, a2, a3, a4, a5, a6⟩ <;> (try (simp_all [zkey]; done)) <;> rcases batchC op ver with ⟨c1, c2⟩ | ⟨c1, c2⟩ <;> first | (simp_all [zkey]; done) | (simp only [a1, c2, a6 c1]; simp [*]; (try (rw [Bool.eq_iff_iff]; simp)); done))
  · exact h.fail.elim

end Go.Proofs.Ytncdakkigkmfjaa.Sx
