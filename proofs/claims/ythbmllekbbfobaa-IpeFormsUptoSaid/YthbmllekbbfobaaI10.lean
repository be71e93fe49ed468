import Derived.Test.YthbmllekbbfobaaProg
import Derived.Test.YthbmllekbbfobaaSxU
import Derived.IntWalk
import Derived.Test.YthbmllekbbfobaaI10r
/-! ipe, laws -/
namespace Go.Proofs.Ythbmllekbbfobaa.Sx
open Go
set_option linter.unusedVariables false
set_option linter.unusedSimpArgs false
set_option maxRecDepth 100000

def T_fareboxlaw10_purse : TT := [(3, ⟨.int .i64, 1, 8, [.int .i64 0], some .int⟩),
  (4, ⟨.bool, 1, 1, [.bool false], some .bool⟩),
  (56, ⟨.int .i64, 1, 8, [.int .i64 0], some .int⟩),
  (58, ⟨.strct [(0, 56), (1, 3), (2, 3), (3, 3), (4, 3), (5, 3), (6, 3), (7, 3), (8, 4), (9, 3), (10, 3), (11, 3), (12, 3), (13, 4)], 14, 112, [.int .i64 0, .int .i64 0, .int .i64 0, .int .i64 0, .int .i64 0, .int .i64 0, .int .i64 0, .int .i64 0, .bool false, .int .i64 0, .int .i64 0, .int .i64 0, .int .i64 0, .bool false], some .product⟩)]
theorem tOk_fareboxlaw10_purse : TOk Try.prog T_fareboxlaw10_purse := tOk_of (by kernel_rfl)
def sp_fareboxlaw10_purse : Spec := fun args hp => match args, hp with
  | [], [] => .ok (svProduct purseP) []
  | _, _ => .fail "fareboxlaw10_purse"
abbrev k_fareboxlaw10_purse : List (Option RK) := []
def a_fareboxlaw10_purse : List SV → List (Nat × VB) → Anns := fun _ _ => []
set_option maxHeartbeats 20000000 in
theorem ok_fareboxlaw10_purse : GOk Try.prog 31 (lift k_fareboxlaw10_purse sp_fareboxlaw10_purse) := by
  refine pf_ok (T := T_fareboxlaw10_purse) (Γ := []) tOk_fareboxlaw10_purse (gOks_nil _) mixed Try.func31 (c := body Try.f31) (by kernel_rfl) (by kernel_rfl) k_fareboxlaw10_purse sp_fareboxlaw10_purse (by kernel_rfl) (by kernel_rfl) a_fareboxlaw10_purse ?_
  intro args hp s u hfit h
  unfold sp_fareboxlaw10_purse at h
  split at h
  · skip
    obtain ⟨rfl, rfl⟩ := h.ok
    clear h hfit
    conv => whnf
    repeat' (first
      | (refine And.intro ?_ ?_ <;> try conv => whnf)
      | (intro hh; first | (cases hh; done) | conv => whnf))
    all_goals try first | rfl | kernel_rfl
    all_goals try simp only [decide_eq_true_eq, decide_eq_false_iff_not] at *
    all_goals try simp only [Key_eta, Share_eta, Journey_eta, Batch_eta, FieldT_eta, OpB_eta, Product_eta, Item_eta, Delta_eta, Elem_eta, Rule_eta, Do10_eta, Key_beq, Share_beq, Journey_beq, FieldT_beq, Product_beq, Item_beq, Do10_beq, toNat0, toNat1, toNat2, toNat3, toNat4, toNat5, toNat6, toNat7, toNat8, toNat9, toNat10, toNat11, toNat12, toNat13, toNat14, toNat15, toNat16, toNat17, toNat18, toNat19, iA, iOf, atS, rwA, castK, zK, true_and, and_true, decide_eq_true_eq, decide_eq_false_iff_not, beq_iff_eq, bne_iff_ne, beq_eq_false_iff_ne, bne_eq_false_iff_eq, Bool.not_eq_true', Bool.not_eq_false', Bool.not_eq_true, Bool.not_eq_false, Nat.succ_eq_add_one, Int.not_lt, Int.not_le, gt_iff_lt, ge_iff_le] at *
    all_goals first | exact Res.mk trivial | exact Res.mk ⟨rfl, rfl, rfl, rfl, rfl, rfl, rfl, rfl, rfl, rfl, rfl, rfl, rfl, rfl⟩
  · exact h.fail.elim

def T_fareboxlaw10_awake : TT := [(3, ⟨.int .i64, 1, 8, [.int .i64 0], some .int⟩),
  (4, ⟨.bool, 1, 1, [.bool false], some .bool⟩),
  (5, ⟨.int .u8, 1, 1, [.int .u8 0], some .u8⟩),
  (25, ⟨.slice 5, 1, 24, [.slice none 0 0], none⟩),
  (27, ⟨.int .i64, 1, 8, [.int .i64 0], some .int⟩),
  (56, ⟨.int .i64, 1, 8, [.int .i64 0], some .int⟩),
  (58, ⟨.strct [(0, 56), (1, 3), (2, 3), (3, 3), (4, 3), (5, 3), (6, 3), (7, 3), (8, 4), (9, 3), (10, 3), (11, 3), (12, 3), (13, 4)], 14, 112, [.int .i64 0, .int .i64 0, .int .i64 0, .int .i64 0, .int .i64 0, .int .i64 0, .int .i64 0, .int .i64 0, .bool false, .int .i64 0, .int .i64 0, .int .i64 0, .int .i64 0, .bool false], some .product⟩),
  (153, ⟨.strct [(0, 58)], 14, 112, [.int .i64 0, .int .i64 0, .int .i64 0, .int .i64 0, .int .i64 0, .int .i64 0, .int .i64 0, .int .i64 0, .bool false, .int .i64 0, .int .i64 0, .int .i64 0, .int .i64 0, .bool false], none⟩)]
theorem tOk_fareboxlaw10_awake : TOk Try.prog T_fareboxlaw10_awake := tOk_of (by kernel_rfl)
def sp_fareboxlaw10_awake : Spec := fun args hp => match args, hp with
  | [], [] => .ok (bv true) []
  | _, _ => .fail "fareboxlaw10_awake"
abbrev k_fareboxlaw10_awake : List (Option RK) := []
def a_fareboxlaw10_awake : List SV → List (Nat × VB) → Anns := fun _ _ => []
set_option maxHeartbeats 20000000 in
theorem ok_fareboxlaw10_awake : GOk Try.prog 26 (lift k_fareboxlaw10_awake sp_fareboxlaw10_awake) := by
  refine pf_ok (T := T_fareboxlaw10_awake) (Γ := (31, lift k_fareboxlaw10_purse sp_fareboxlaw10_purse) :: (27, lift k_ipe_Form sp_ipe_Form) :: (77, lift k_ipe_Parse sp_ipe_Parse) :: (78, lift k_ipe_Thing_In sp_ipe_Thing_In) :: (79, lift k_ipe_Thing_Out sp_ipe_Thing_Out) :: []) tOk_fareboxlaw10_awake (gOks_cons ok_fareboxlaw10_purse (gOks_cons ok_ipe_Form (gOks_cons ok_ipe_Parse (gOks_cons ok_ipe_Thing_In (gOks_cons ok_ipe_Thing_Out (gOks_nil _)))))) mixed Try.func26 (c := body Try.f26) (by kernel_rfl) (by kernel_rfl) k_fareboxlaw10_awake sp_fareboxlaw10_awake (by kernel_rfl) (by kernel_rfl) a_fareboxlaw10_awake ?_
  intro args hp s u hfit h
  unfold sp_fareboxlaw10_awake at h
  split at h
  · skip
    obtain ⟨rfl, rfl⟩ := h.ok
    clear h hfit
    conv => whnf
    repeat' (first
      | (refine And.intro ?_ ?_ <;> try conv => whnf)
      | (intro hh; first | (cases hh; done) | conv => whnf))
    all_goals try first | rfl | kernel_rfl
    all_goals try simp only [decide_eq_true_eq, decide_eq_false_iff_not] at *
    all_goals try simp only [Key_eta, Share_eta, Journey_eta, Batch_eta, FieldT_eta, OpB_eta, Product_eta, Item_eta, Delta_eta, Elem_eta, Rule_eta, Do10_eta, Key_beq, Share_beq, Journey_beq, FieldT_beq, Product_beq, Item_beq, Do10_beq, toNat0, toNat1, toNat2, toNat3, toNat4, toNat5, toNat6, toNat7, toNat8, toNat9, toNat10, toNat11, toNat12, toNat13, toNat14, toNat15, toNat16, toNat17, toNat18, toNat19, iA, iOf, atS, rwA, castK, zK, true_and, and_true, decide_eq_true_eq, decide_eq_false_iff_not, beq_iff_eq, bne_iff_ne, beq_eq_false_iff_ne, bne_eq_false_iff_eq, Bool.not_eq_true', Bool.not_eq_false', Bool.not_eq_true, Bool.not_eq_false, Nat.succ_eq_add_one, Int.not_lt, Int.not_le, gt_iff_lt, ge_iff_le, show bytesS T_fareboxlaw10_awake 25 = 1 from rfl] at *
    · exact Vc.mk ⟨formL_isB _, by decide⟩
    · exact Vc.mk rfl
    · exact Vc.mk (jn_right rfl rfl)
    · refine Vc.mk ?_; omega
    · refine Vc.mk ?_; omega
    · exact Res.mk rfl
  · exact h.fail.elim

end Go.Proofs.Ythbmllekbbfobaa.Sx
