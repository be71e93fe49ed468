import Derived.Test.YthbmllekbbfobaaProg
import Derived.Test.YthbmllekbbfobaaSxU
import Derived.IntWalk
import Derived.Test.YthbmllekbbfobaaI1r
/-! ipe, numbers -/
namespace Go.Proofs.Ythbmllekbbfobaa.Sx
open Go
set_option linter.unusedVariables false
set_option linter.unusedSimpArgs false
set_option maxRecDepth 100000

def T_ipe_bit : TT := [(3, ⟨.int .i64, 1, 8, [.int .i64 0], some .int⟩),
  (4, ⟨.bool, 1, 1, [.bool false], some .bool⟩)]
theorem tOk_ipe_bit : TOk Try.prog T_ipe_bit := tOk_of (by kernel_rfl)
def sp_ipe_bit : Spec := fun args hp => match args, hp with
  | [.val (.bool b)], [] => .ok (iv (b2i b)) []
  | _, _ => .fail "ipe_bit"
abbrev k_ipe_bit : List (Option RK) := [none]
def a_ipe_bit : List SV → List (Nat × VB) → Anns := fun _ _ => []
set_option maxHeartbeats 20000000 in
theorem ok_ipe_bit : GOk Try.prog 124 (lift k_ipe_bit sp_ipe_bit) := by
  refine pf_ok (T := T_ipe_bit) (Γ := []) tOk_ipe_bit (gOks_nil _) mixed Try.func124 (c := body Try.f124) (by kernel_rfl) (by kernel_rfl) k_ipe_bit sp_ipe_bit (by kernel_rfl) (by kernel_rfl) a_ipe_bit ?_
  intro args hp s u hfit h
  unfold sp_ipe_bit at h
  split at h
  · rename_i b
    obtain ⟨rfl, rfl⟩ := h.ok
    clear h hfit
    conv => whnf
    repeat' (first
      | (refine And.intro ?_ ?_ <;> try conv => whnf)
      | (intro hh; first | (cases hh; done) | conv => whnf))
    all_goals try first | rfl | kernel_rfl
    all_goals try simp only [decide_eq_true_eq, decide_eq_false_iff_not] at *
    all_goals try simp only [Key_eta, Share_eta, Journey_eta, Batch_eta, FieldT_eta, OpB_eta, Product_eta, Item_eta, Delta_eta, Elem_eta, Rule_eta, Do10_eta, Key_beq, Share_beq, Journey_beq, FieldT_beq, Product_beq, Item_beq, Do10_beq, toNat0, toNat1, toNat2, toNat3, toNat4, toNat5, toNat6, toNat7, toNat8, toNat9, toNat10, toNat11, toNat12, toNat13, toNat14, toNat15, toNat16, toNat17, toNat18, toNat19, iA, iOf, atS, rwA, castK, zK, true_and, and_true, decide_eq_true_eq, decide_eq_false_iff_not, beq_iff_eq, bne_iff_ne, beq_eq_false_iff_ne, bne_eq_false_iff_eq, Bool.not_eq_true', Bool.not_eq_false', Bool.not_eq_true, Bool.not_eq_false, Nat.succ_eq_add_one, Int.not_lt, Int.not_le, gt_iff_lt, ge_iff_le] at *
    all_goals (refine Res.mk ?_; simp [b2i, *])
  · exact h.fail.elim

def T_ipe_unless : TT := [(4, ⟨.bool, 1, 1, [.bool false], some .bool⟩),
  (27, ⟨.int .i64, 1, 8, [.int .i64 0], some .int⟩)]
theorem tOk_ipe_unless : TOk Try.prog T_ipe_unless := tOk_of (by kernel_rfl)
def sp_ipe_unless : Spec := fun args hp => match args, hp with
  | [.val (.bool ok), .val (.int .i64 e)], [] => .ok (iv (bif ok then 0 else e)) []
  | _, _ => .fail "ipe_unless"
abbrev k_ipe_unless : List (Option RK) := [none, none]
def a_ipe_unless : List SV → List (Nat × VB) → Anns := fun _ _ => []
set_option maxHeartbeats 20000000 in
theorem ok_ipe_unless : GOk Try.prog 121 (lift k_ipe_unless sp_ipe_unless) := by
  refine pf_ok (T := T_ipe_unless) (Γ := []) tOk_ipe_unless (gOks_nil _) mixed Try.func121 (c := body Try.f121) (by kernel_rfl) (by kernel_rfl) k_ipe_unless sp_ipe_unless (by kernel_rfl) (by kernel_rfl) a_ipe_unless ?_
  intro args hp s u hfit h
  unfold sp_ipe_unless at h
  split at h
  · rename_i ok e
    obtain ⟨rfl, rfl⟩ := h.ok
    clear h hfit
    conv => whnf
    repeat' (first
      | (refine And.intro ?_ ?_ <;> try conv => whnf)
      | (intro hh; first | (cases hh; done) | conv => whnf))
    all_goals try first | rfl | kernel_rfl
    all_goals try simp only [decide_eq_true_eq, decide_eq_false_iff_not] at *
    all_goals try simp only [Key_eta, Share_eta, Journey_eta, Batch_eta, FieldT_eta, OpB_eta, Product_eta, Item_eta, Delta_eta, Elem_eta, Rule_eta, Do10_eta, Key_beq, Share_beq, Journey_beq, FieldT_beq, Product_beq, Item_beq, Do10_beq, toNat0, toNat1, toNat2, toNat3, toNat4, toNat5, toNat6, toNat7, toNat8, toNat9, toNat10, toNat11, toNat12, toNat13, toNat14, toNat15, toNat16, toNat17, toNat18, toNat19, iA, iOf, atS, rwA, castK, zK, true_and, and_true, decide_eq_true_eq, decide_eq_false_iff_not, beq_iff_eq, bne_iff_ne, beq_eq_false_iff_ne, bne_eq_false_iff_eq, Bool.not_eq_true', Bool.not_eq_false', Bool.not_eq_true, Bool.not_eq_false, Nat.succ_eq_add_one, Int.not_lt, Int.not_le, gt_iff_lt, ge_iff_le] at *
    all_goals (refine Res.mk ?_; simp [*])
  · exact h.fail.elim

def T_ipe_in : TT := [(3, ⟨.int .i64, 1, 8, [.int .i64 0], some .int⟩),
  (4, ⟨.bool, 1, 1, [.bool false], some .bool⟩)]
theorem tOk_ipe_in : TOk Try.prog T_ipe_in := tOk_of (by kernel_rfl)
def sp_ipe_in : Spec := fun args hp => match args, hp with
  | [.val (.int .i64 n), .val (.int .i64 most)], [] => .ok (bv (decide (0 ≤ n) && decide (n ≤ most))) []
  | _, _ => .fail "ipe_in"
abbrev k_ipe_in : List (Option RK) := [none, none]
def a_ipe_in : List SV → List (Nat × VB) → Anns := fun _ _ => []
set_option maxHeartbeats 20000000 in
theorem ok_ipe_in : GOk Try.prog 122 (lift k_ipe_in sp_ipe_in) := by
  refine pf_ok (T := T_ipe_in) (Γ := []) tOk_ipe_in (gOks_nil _) mixed Try.func122 (c := body Try.f122) (by kernel_rfl) (by kernel_rfl) k_ipe_in sp_ipe_in (by kernel_rfl) (by kernel_rfl) a_ipe_in ?_
  intro args hp s u hfit h
  unfold sp_ipe_in at h
  split at h
  · rename_i n most
    obtain ⟨rfl, rfl⟩ := h.ok
    clear h hfit
    conv => whnf
    repeat' (first
      | (refine And.intro ?_ ?_ <;> try conv => whnf)
      | (intro hh; first | (cases hh; done) | conv => whnf))
    all_goals try first | rfl | kernel_rfl
    all_goals try simp only [decide_eq_true_eq, decide_eq_false_iff_not] at *
    all_goals try simp only [Key_eta, Share_eta, Journey_eta, Batch_eta, FieldT_eta, OpB_eta, Product_eta, Item_eta, Delta_eta, Elem_eta, Rule_eta, Do10_eta, Key_beq, Share_beq, Journey_beq, FieldT_beq, Product_beq, Item_beq, Do10_beq, toNat0, toNat1, toNat2, toNat3, toNat4, toNat5, toNat6, toNat7, toNat8, toNat9, toNat10, toNat11, toNat12, toNat13, toNat14, toNat15, toNat16, toNat17, toNat18, toNat19, iA, iOf, atS, rwA, castK, zK, true_and, and_true, decide_eq_true_eq, decide_eq_false_iff_not, beq_iff_eq, bne_iff_ne, beq_eq_false_iff_ne, bne_eq_false_iff_eq, Bool.not_eq_true', Bool.not_eq_false', Bool.not_eq_true, Bool.not_eq_false, Nat.succ_eq_add_one, Int.not_lt, Int.not_le, gt_iff_lt, ge_iff_le] at *
    all_goals (refine Res.mk ?_; first | (simp [*]; done) | (rw [Bool.eq_iff_iff]; simp; omega))
  · exact h.fail.elim

def T_ipe_fields : TT := [(3, ⟨.int .i64, 1, 8, [.int .i64 0], some .int⟩),
  (4, ⟨.bool, 1, 1, [.bool false], some .bool⟩),
  (56, ⟨.int .i64, 1, 8, [.int .i64 0], some .int⟩),
  (58, ⟨.strct [(0, 56), (1, 3), (2, 3), (3, 3), (4, 3), (5, 3), (6, 3), (7, 3), (8, 4), (9, 3), (10, 3), (11, 3), (12, 3), (13, 4)], 14, 112, [.int .i64 0, .int .i64 0, .int .i64 0, .int .i64 0, .int .i64 0, .int .i64 0, .int .i64 0, .int .i64 0, .bool false, .int .i64 0, .int .i64 0, .int .i64 0, .int .i64 0, .bool false], some .product⟩),
  (126, ⟨.ptr, 1, 8, [.pointer none], none⟩),
  (205, ⟨.slice 213, 1, 24, [.slice none 0 0], none⟩),
  (207, ⟨.ptr, 1, 8, [.pointer none], none⟩),
  (213, ⟨.strct [(0, 126), (1, 3), (2, 3)], 3, 24, [.pointer none, .int .i64 0, .int .i64 0], none⟩)]
theorem tOk_ipe_fields : TOk Try.prog T_ipe_fields := tOk_of (by kernel_rfl)
def sp_ipe_fields : Spec := fun args hp => match args, hp with
  | [.ptr 0 0, .ptr 1 0, .ptr 2 0, .ptr 3 0], [(0, .cells [.val (.int .i64 p_kind), .val (.int .i64 p_owner), .val (.int .i64 p_id), .val (.int .i64 p_card), .val (.int .i64 p_ver), .val (.int .i64 p_value), .val (.int .i64 p_last), .val (.int .i64 p_rides), .val (.bool p_open_), .val (.int .i64 p_zone), .val (.int .i64 p_day), .val (.int .i64 p_txn), .val (.int .i64 p_act), .val (.bool p_blocked)]), (1, .cells [.val (.int .i64 kind_v)]), (2, .cells [.val (.int .i64 open_v)]), (3, .cells [.val (.int .i64 blocked_v)])] => .ok (.slC 2000 14) [(2000, some (.cells [.ptr 1 0, iv 1, iv 4, .ptr 0 1, iv 1, iv 4, .ptr 0 2, iv 1, iv 65535, .ptr 0 3, iv 1, iv 65535, .ptr 0 4, iv 1, iv 255, .ptr 0 5, iv 0, iv 2147483648, .ptr 0 6, iv 0, iv 65535, .ptr 0 7, iv 0, iv 255, .ptr 2 0, iv 0, iv 1, .ptr 0 9, iv 0, iv 255, .ptr 0 10, iv 0, iv 65535, .ptr 0 11, iv 0, iv 65535, .ptr 0 12, iv 0, iv 65535, .ptr 3 0, iv 0, iv 1]))]
  | _, _ => .fail "ipe_fields"
abbrev k_ipe_fields : List (Option RK) := [none, none, none, none]
def a_ipe_fields : List SV → List (Nat × VB) → Anns := fun _ _ => []
set_option maxHeartbeats 20000000 in
theorem ok_ipe_fields : GOk Try.prog 117 (lift k_ipe_fields sp_ipe_fields) := by
  refine pf_ok (T := T_ipe_fields) (Γ := []) tOk_ipe_fields (gOks_nil _) mixed Try.func117 (c := body Try.f117) (by kernel_rfl) (by kernel_rfl) k_ipe_fields sp_ipe_fields (by kernel_rfl) (by kernel_rfl) a_ipe_fields ?_
  intro args hp s u hfit h
  unfold sp_ipe_fields at h
  split at h
  · rename_i p_kind p_owner p_id p_card p_ver p_value p_last p_rides p_open_ p_zone p_day p_txn p_act p_blocked kind_v open_v blocked_v
    obtain ⟨rfl, rfl⟩ := h.ok
    clear h hfit
    conv => whnf
    repeat' (first
      | (refine And.intro ?_ ?_ <;> try conv => whnf)
      | (intro hh; first | (cases hh; done) | conv => whnf))
    all_goals try first | rfl | kernel_rfl
    all_goals try simp only [decide_eq_true_eq, decide_eq_false_iff_not] at *
    all_goals try simp only [Key_eta, Share_eta, Journey_eta, Batch_eta, FieldT_eta, OpB_eta, Product_eta, Item_eta, Delta_eta, Elem_eta, Rule_eta, Do10_eta, Key_beq, Share_beq, Journey_beq, FieldT_beq, Product_beq, Item_beq, Do10_beq, toNat0, toNat1, toNat2, toNat3, toNat4, toNat5, toNat6, toNat7, toNat8, toNat9, toNat10, toNat11, toNat12, toNat13, toNat14, toNat15, toNat16, toNat17, toNat18, toNat19, iA, iOf, atS, rwA, castK, zK, true_and, and_true, decide_eq_true_eq, decide_eq_false_iff_not, beq_iff_eq, bne_iff_ne, beq_eq_false_iff_ne, bne_eq_false_iff_eq, Bool.not_eq_true', Bool.not_eq_false', Bool.not_eq_true, Bool.not_eq_false, Nat.succ_eq_add_one, Int.not_lt, Int.not_le, gt_iff_lt, ge_iff_le, show bytesS T_ipe_fields 205 = 24 from rfl] at *
    all_goals exact Res.mk trivial
  · exact h.fail.elim

end Go.Proofs.Ythbmllekbbfobaa.Sx
