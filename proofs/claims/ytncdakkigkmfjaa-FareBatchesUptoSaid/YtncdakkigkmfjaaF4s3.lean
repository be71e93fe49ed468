import Derived.Test.YtncdakkigkmfjaaProg
import Derived.Test.YtncdakkigkmfjaaSxU
import Derived.IntWalk
import Derived.Test.YtncdakkigkmfjaaF4s2
/-! fare, its laws -/
namespace Go.Proofs.Ytncdakkigkmfjaa.Sx
open Go
set_option linter.unusedVariables false
set_option linter.unusedSimpArgs false
set_option maxRecDepth 100000

def T_fareboxlaw13_ride : TT := [(3, ⟨.int .i64, 1, 8, [.int .i64 0], some .int⟩),
  (40, ⟨.int .i64, 1, 8, [.int .i64 0], none⟩),
  (73, ⟨.strct [(0, 3), (1, 3), (2, 3), (3, 3), (4, 3), (5, 40), (6, 3), (7, 3), (8, 3), (9, 3)], 10, 80, [.int .i64 0, .int .i64 0, .int .i64 0, .int .i64 0, .int .i64 0, .int .i64 0, .int .i64 0, .int .i64 0, .int .i64 0, .int .i64 0], some .journey⟩)]
theorem tOk_fareboxlaw13_ride : TOk Try.prog T_fareboxlaw13_ride := tOk_of (by kernel_rfl)
def sp_fareboxlaw13_ride : Spec := fun args hp => match args, hp with
  | [], [] => .ok (svJourney rideJ) []
  | _, _ => .fail "fareboxlaw13_ride"
abbrev k_fareboxlaw13_ride : List (Option RK) := []
def a_fareboxlaw13_ride : List SV → List (Nat × VB) → Anns := fun _ _ => []
set_option maxHeartbeats 20000000 in
theorem ok_fareboxlaw13_ride : GOk Try.prog 62 (lift k_fareboxlaw13_ride sp_fareboxlaw13_ride) := by
  refine pf_ok (T := T_fareboxlaw13_ride) (Γ := []) tOk_fareboxlaw13_ride (gOks_nil _) mixed Try.func62 (c := body Try.f62) (by kernel_rfl) (by kernel_rfl) k_fareboxlaw13_ride sp_fareboxlaw13_ride (by kernel_rfl) (by kernel_rfl) a_fareboxlaw13_ride ?_
  intro args hp s u hfit h
  unfold sp_fareboxlaw13_ride at h
  split at h
  · skip
    obtain ⟨rfl, rfl⟩ := h.ok
    clear h hfit
    conv => whnf
    repeat' (first
      | (refine And.intro ?_ ?_ <;> try conv => whnf)
      | (intro hh; first | (cases hh; done) | conv => whnf))
    all_goals try first | rfl | kernel_rfl
    all_goals try simp only [decide_eq_true_eq, decide_eq_false_iff_not] at *
    all_goals try simp only [Key_eta, Share_eta, Journey_eta, Batch_eta, FieldT_eta, OpB_eta, Product_eta, Key_beq, Share_beq, Journey_beq, FieldT_beq, Product_beq, toNat0, toNat1, toNat2, toNat3, toNat4, toNat5, toNat6, toNat7, toNat8, toNat9, toNat10, toNat11, toNat12, toNat13, toNat14, toNat15, toNat16, toNat17, toNat18, toNat19, iA, iOf, atS, zK, true_and, and_true, decide_eq_true_eq, decide_eq_false_iff_not, beq_iff_eq, bne_iff_ne, beq_eq_false_iff_ne, bne_eq_false_iff_eq, Bool.not_eq_true', Bool.not_eq_false', Bool.not_eq_true, Bool.not_eq_false, Nat.succ_eq_add_one, Int.not_lt, Int.not_le, gt_iff_lt, ge_iff_le] at *
    all_goals exact Res.mk (by simp [rideJ])
  · exact h.fail.elim

def T_fareboxlaw13_awake : TT := [(3, ⟨.int .i64, 1, 8, [.int .i64 0], some .int⟩),
  (4, ⟨.bool, 1, 1, [.bool false], some .bool⟩),
  (5, ⟨.int .u8, 1, 1, [.int .u8 0], some .u8⟩),
  (24, ⟨.slice 3, 1, 24, [.slice none 0 0], none⟩),
  (27, ⟨.int .i64, 1, 8, [.int .i64 0], none⟩),
  (40, ⟨.int .i64, 1, 8, [.int .i64 0], none⟩),
  (47, ⟨.slice 24, 1, 24, [.slice none 0 0], none⟩),
  (49, ⟨.strct [(0, 3), (1, 3), (2, 47), (3, 3), (4, 3), (5, 3), (6, 3)], 7, 72, [.int .i64 0, .int .i64 0, .slice none 0 0, .int .i64 0, .int .i64 0, .int .i64 0, .int .i64 0], none⟩),
  (54, ⟨.slice 73, 1, 24, [.slice none 0 0], none⟩),
  (56, ⟨.strct [(0, 3), (1, 3), (2, 54)], 3, 40, [.int .i64 0, .int .i64 0, .slice none 0 0], some .batch⟩),
  (57, ⟨.slice 5, 1, 24, [.slice none 0 0], none⟩),
  (73, ⟨.strct [(0, 3), (1, 3), (2, 3), (3, 3), (4, 3), (5, 40), (6, 3), (7, 3), (8, 3), (9, 3)], 10, 80, [.int .i64 0, .int .i64 0, .int .i64 0, .int .i64 0, .int .i64 0, .int .i64 0, .int .i64 0, .int .i64 0, .int .i64 0, .int .i64 0], some .journey⟩)]
theorem tOk_fareboxlaw13_awake : TOk Try.prog T_fareboxlaw13_awake := tOk_of (by kernel_rfl)
def sp_fareboxlaw13_awake : Spec := fun args hp => match args, hp with
  | [], [] => .ok (bv true) []
  | _, _ => .fail "fareboxlaw13_awake"
abbrev k_fareboxlaw13_awake : List (Option RK) := []
def a_fareboxlaw13_awake : List SV → List (Nat × VB) → Anns := fun _ _ => []
set_option maxHeartbeats 20000000 in
theorem ok_fareboxlaw13_awake : GOk Try.prog 29 (lift k_fareboxlaw13_awake sp_fareboxlaw13_awake) := by
  refine pf_ok (T := T_fareboxlaw13_awake) (Γ := (62, lift k_fareboxlaw13_ride sp_fareboxlaw13_ride) :: (35, lift k_fare_PutBatch sp_fare_PutBatch) :: (37, lift k_fare_GetBatch sp_fare_GetBatch) :: (30, lift k_fare_Fare sp_fare_Fare) :: (34, lift k_fare_Flat sp_fare_Flat) :: []) tOk_fareboxlaw13_awake (gOks_cons ok_fareboxlaw13_ride (gOks_cons ok_fare_PutBatch (gOks_cons ok_fare_GetBatch (gOks_cons ok_fare_Fare (gOks_cons ok_fare_Flat (gOks_nil _)))))) mixed Try.func29 (c := body Try.f29) (by kernel_rfl) (by kernel_rfl) k_fareboxlaw13_awake sp_fareboxlaw13_awake (by kernel_rfl) (by kernel_rfl) a_fareboxlaw13_awake ?_
  intro args hp s u hfit h
  unfold sp_fareboxlaw13_awake at h
  split at h
  · skip
    obtain ⟨rfl, rfl⟩ := h.ok
    clear h hfit
    conv => whnf
    repeat' (first
      | (refine And.intro ?_ ?_ <;> try conv => whnf)
      | (intro hh; first | (cases hh; done) | conv => whnf))
    all_goals try first | rfl | kernel_rfl
    all_goals try simp only [decide_eq_true_eq, decide_eq_false_iff_not] at *
    all_goals try simp only [Key_eta, Share_eta, Journey_eta, Batch_eta, FieldT_eta, OpB_eta, Product_eta, Key_beq, Share_beq, Journey_beq, FieldT_beq, Product_beq, toNat0, toNat1, toNat2, toNat3, toNat4, toNat5, toNat6, toNat7, toNat8, toNat9, toNat10, toNat11, toNat12, toNat13, toNat14, toNat15, toNat16, toNat17, toNat18, toNat19, iA, iOf, atS, zK, true_and, and_true, decide_eq_true_eq, decide_eq_false_iff_not, beq_iff_eq, bne_iff_ne, beq_eq_false_iff_ne, bne_eq_false_iff_eq, Bool.not_eq_true', Bool.not_eq_false', Bool.not_eq_true, Bool.not_eq_false, Nat.succ_eq_add_one, Int.not_lt, Int.not_le, gt_iff_lt, ge_iff_le, show bytesS T_fareboxlaw13_awake 24 = 8 from rfl, show bytesS T_fareboxlaw13_awake 47 = 24 from rfl, show bytesS T_fareboxlaw13_awake 54 = 80 from rfl, show bytesS T_fareboxlaw13_awake 57 = 1 from rfl] at *
    · exact Vc.mk (by simp)
    · exact Vc.mk ⟨putBB_isB _, by rw [ride4]; decide⟩
    all_goals rw [ride3]
    · exact Vc.mk (by simp)
    · exact Vc.mk (by simp)
    · exact Res.mk rfl
  · exact h.fail.elim

end Go.Proofs.Ytncdakkigkmfjaa.Sx
