import Derived.Test.YtncdakkigkmfjaaProg
import Derived.Test.YtncdakkigkmfjaaSxU
import Derived.IntWalk
import Derived.Test.YtncdakkigkmfjaaK3as0
/-! fareboxlaw09.awake -/
namespace Go.Proofs.Ytncdakkigkmfjaa.Sx
open Go
set_option linter.unusedVariables false
set_option linter.unusedSimpArgs false
set_option maxRecDepth 100000

def T_fareboxlaw09_awake : TT := [(3, ⟨.int .i64, 1, 8, [.int .i64 0], some .int⟩),
  (4, ⟨.bool, 1, 1, [.bool false], some .bool⟩),
  (23, ⟨.strct [(0, 3), (1, 3), (2, 3), (3, 3)], 4, 32, [.int .i64 0, .int .i64 0, .int .i64 0, .int .i64 0], some .key⟩),
  (24, ⟨.slice 3, 1, 24, [.slice none 0 0], none⟩),
  (25, ⟨.slice 23, 1, 24, [.slice none 0 0], none⟩),
  (27, ⟨.int .i64, 1, 8, [.int .i64 0], none⟩)]
theorem tOk_fareboxlaw09_awake : TOk Try.prog T_fareboxlaw09_awake := tOk_of (by kernel_rfl)
def sp_fareboxlaw09_awake : Spec := fun args hp => match args, hp with
  | [], [] => .ok (bv true) []
  | _, _ => .fail "fareboxlaw09_awake"
abbrev k_fareboxlaw09_awake : List (Option RK) := []
def a_fareboxlaw09_awake : List SV → List (Nat × VB) → Anns := fun _ _ => []
set_option maxHeartbeats 20000000 in
theorem ok_fareboxlaw09_awake : GOk Try.prog 15 (lift k_fareboxlaw09_awake sp_fareboxlaw09_awake) := by
  refine pf_ok (T := T_fareboxlaw09_awake) (Γ := (16, lift k_keys_Derive sp_keys_Derive) :: (18, lift k_keys_Parent sp_keys_Parent) :: (25, lift k_keys_From sp_keys_From) :: []) tOk_fareboxlaw09_awake (gOks_cons ok_keys_Derive (gOks_cons ok_keys_Parent (gOks_cons ok_keys_From (gOks_nil _)))) mixed Try.func15 (c := body Try.f15) (by kernel_rfl) (by kernel_rfl) k_fareboxlaw09_awake sp_fareboxlaw09_awake (by kernel_rfl) (by kernel_rfl) a_fareboxlaw09_awake ?_
  intro args hp s u hfit h
  unfold sp_fareboxlaw09_awake at h
  split at h
  · skip
    obtain ⟨rfl, rfl⟩ := h.ok
    clear h hfit
    conv => whnf
    repeat' (first
      | (refine And.intro ?_ ?_ <;> try conv => whnf)
      | (intro hh; first | (cases hh; done) | conv => whnf))
    all_goals try first | rfl | kernel_rfl
    all_goals try simp only [Key_eta, Share_eta, Journey_eta, Batch_eta, FieldT_eta, OpB_eta, Product_eta, Key_beq, Share_beq, Journey_beq, FieldT_beq, Product_beq, toNat0, toNat1, toNat2, toNat3, toNat4, toNat5, toNat6, toNat7, toNat8, toNat9, toNat10, toNat11, toNat12, toNat13, toNat14, toNat15, toNat16, toNat17, toNat18, toNat19, iA, iOf, atS, zK, true_and, and_true, decide_eq_true_eq, decide_eq_false_iff_not, beq_iff_eq, bne_iff_ne, beq_eq_false_iff_ne, bne_eq_false_iff_eq, Bool.not_eq_true', Bool.not_eq_false', Bool.not_eq_true, Bool.not_eq_false, Nat.succ_eq_add_one, Int.not_lt, Int.not_le, gt_iff_lt, ge_iff_le] at *
    all_goals first
      | (refine Vc.mk ?_; simp; done)
      | (refine ⟨?_⟩; simp [aw1, aw2, aw3] at *; done)
      | (exfalso; simp [aw1, aw2, aw3] at *; done)
  · exact h.fail.elim

end Go.Proofs.Ytncdakkigkmfjaa.Sx
