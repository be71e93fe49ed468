import Derived.Test.YthbmllekbbfobaaProg
import Derived.Test.YthbmllekbbfobaaSxU
import Derived.IntWalk
import Derived.Test.YthbmllekbbfobaaL1r
/-! lists -/
namespace Go.Proofs.Ythbmllekbbfobaa.Sx
open Go
set_option linter.unusedVariables false
set_option linter.unusedSimpArgs false
set_option maxRecDepth 100000

def T_lists_fields : TT := [(3, ⟨.int .i64, 1, 8, [.int .i64 0], some .int⟩),
  (52, ⟨.strct [(0, 3), (1, 3), (2, 3), (3, 3), (4, 3)], 5, 40, [.int .i64 0, .int .i64 0, .int .i64 0, .int .i64 0, .int .i64 0], some .item⟩),
  (125, ⟨.slice 126, 1, 24, [.slice none 0 0], none⟩),
  (126, ⟨.ptr, 1, 8, [.pointer none], none⟩),
  (128, ⟨.ptr, 1, 8, [.pointer none], none⟩)]
theorem tOk_lists_fields : TOk Try.prog T_lists_fields := tOk_of (by kernel_rfl)
def sp_lists_fields : Spec := fun args hp => match args, hp with
  | [.elt 0 x_at 0], [(0, .row o_x .item x)] => .ok (.slC 2000 5) [(2000, some (.cells [.elt 0 x_at 0, .elt 0 x_at 1, .elt 0 x_at 2, .elt 0 x_at 3, .elt 0 x_at 4]))]
  | _, _ => .fail "lists_fields"
abbrev k_lists_fields : List (Option RK) := [none]
def a_lists_fields : List SV → List (Nat × VB) → Anns := fun _ _ => []
set_option maxHeartbeats 20000000 in
theorem ok_lists_fields : GOk Try.prog 59 (lift k_lists_fields sp_lists_fields) := by
  refine pf_ok (T := T_lists_fields) (Γ := []) tOk_lists_fields (gOks_nil _) mixed Try.func59 (c := body Try.f59) (by kernel_rfl) (by kernel_rfl) k_lists_fields sp_lists_fields (by kernel_rfl) (by kernel_rfl) a_lists_fields ?_
  intro args hp s u hfit h
  unfold sp_lists_fields at h
  split at h
  · rename_i x_at o_x x
    obtain ⟨rfl, rfl⟩ := h.ok
    clear h hfit
    change List Item at x
    conv => whnf
    repeat' (first
      | (refine And.intro ?_ ?_ <;> try conv => whnf)
      | (intro hh; first | (cases hh; done) | conv => whnf))
    all_goals try first | rfl | kernel_rfl
    all_goals try simp only [decide_eq_true_eq, decide_eq_false_iff_not] at *
    all_goals try simp only [Key_eta, Share_eta, Journey_eta, Batch_eta, FieldT_eta, OpB_eta, Product_eta, Item_eta, Delta_eta, Elem_eta, Rule_eta, Do10_eta, Ask_eta, Key_beq, Share_beq, Journey_beq, FieldT_beq, Product_beq, Item_beq, Do10_beq, Ask_beq, toNat0, toNat1, toNat2, toNat3, toNat4, toNat5, toNat6, toNat7, toNat8, toNat9, toNat10, toNat11, toNat12, toNat13, toNat14, toNat15, toNat16, toNat17, toNat18, toNat19, iA, iOf, atS, rwA, castK, zK, true_and, and_true, decide_eq_true_eq, decide_eq_false_iff_not, beq_iff_eq, bne_iff_ne, beq_eq_false_iff_ne, bne_eq_false_iff_eq, Bool.not_eq_true', Bool.not_eq_false', Bool.not_eq_true, Bool.not_eq_false, Nat.succ_eq_add_one, Int.not_lt, Int.not_le, gt_iff_lt, ge_iff_le, show bytesS T_lists_fields 125 = 8 from rfl] at *
    all_goals first | exact Res.mk trivial | exact Res.mk ⟨trivial, trivial⟩
  · exact h.fail.elim

def T_lists_Put_1 : TT := [(3, ⟨.int .i64, 1, 8, [.int .i64 0], some .int⟩),
  (4, ⟨.bool, 1, 1, [.bool false], some .bool⟩),
  (126, ⟨.ptr, 1, 8, [.pointer none], none⟩)]
theorem tOk_lists_Put_1 : TOk Try.prog T_lists_Put_1 := tOk_of (by kernel_rfl)
def sp_lists_Put_1 : Spec := fun args hp => match args, hp with
  | [.elt 0 n_at 0], [(0, .row o_n .item n)] => .vc (0 ≤ n_at ∧ n_at < n.length) (bv (badN (n.getD n_at.toNat (⟨0, 0, 0, 0, 0⟩ : Item)).card)) []
  | [.elt 0 n_at 1], [(0, .row o_n .item n)] => .vc (0 ≤ n_at ∧ n_at < n.length) (bv (badN (n.getD n_at.toNat (⟨0, 0, 0, 0, 0⟩ : Item)).owner)) []
  | [.elt 0 n_at 2], [(0, .row o_n .item n)] => .vc (0 ≤ n_at ∧ n_at < n.length) (bv (badN (n.getD n_at.toNat (⟨0, 0, 0, 0, 0⟩ : Item)).id)) []
  | [.elt 0 n_at 3], [(0, .row o_n .item n)] => .vc (0 ≤ n_at ∧ n_at < n.length) (bv (badN (n.getD n_at.toNat (⟨0, 0, 0, 0, 0⟩ : Item)).number)) []
  | [.elt 0 n_at 4], [(0, .row o_n .item n)] => .vc (0 ≤ n_at ∧ n_at < n.length) (bv (badN (n.getD n_at.toNat (⟨0, 0, 0, 0, 0⟩ : Item)).amount)) []
  | _, _ => .fail "lists_Put_1"
abbrev k_lists_Put_1 : List (Option RK) := [none]
def a_lists_Put_1 : List SV → List (Nat × VB) → Anns := fun _ _ => []
set_option maxHeartbeats 20000000 in
theorem ok_lists_Put_1 : GOk Try.prog 60 (lift k_lists_Put_1 sp_lists_Put_1) := by
  refine pf_ok (T := T_lists_Put_1) (Γ := []) tOk_lists_Put_1 (gOks_nil _) mixed Try.func60 (c := body Try.f60) (by kernel_rfl) (by kernel_rfl) k_lists_Put_1 sp_lists_Put_1 (by kernel_rfl) (by kernel_rfl) a_lists_Put_1 ?_
  intro args hp s u hfit h
  unfold sp_lists_Put_1 at h
  split at h
  · rename_i n_at o_n n
    obtain ⟨hvc, rfl, rfl⟩ := h.vc
    clear h hfit
    change List Item at n
    conv => whnf
    repeat' (first
      | (refine And.intro ?_ ?_ <;> try conv => whnf)
      | (intro hh; first | (cases hh; done) | conv => whnf))
    all_goals try first | rfl | kernel_rfl
    all_goals try simp only [decide_eq_true_eq, decide_eq_false_iff_not] at *
    all_goals try simp only [Key_eta, Share_eta, Journey_eta, Batch_eta, FieldT_eta, OpB_eta, Product_eta, Item_eta, Delta_eta, Elem_eta, Rule_eta, Do10_eta, Ask_eta, Key_beq, Share_beq, Journey_beq, FieldT_beq, Product_beq, Item_beq, Do10_beq, Ask_beq, toNat0, toNat1, toNat2, toNat3, toNat4, toNat5, toNat6, toNat7, toNat8, toNat9, toNat10, toNat11, toNat12, toNat13, toNat14, toNat15, toNat16, toNat17, toNat18, toNat19, iA, iOf, atS, rwA, castK, zK, true_and, and_true, decide_eq_true_eq, decide_eq_false_iff_not, beq_iff_eq, bne_iff_ne, beq_eq_false_iff_ne, bne_eq_false_iff_eq, Bool.not_eq_true', Bool.not_eq_false', Bool.not_eq_true, Bool.not_eq_false, Nat.succ_eq_add_one, Int.not_lt, Int.not_le, gt_iff_lt, ge_iff_le] at *
    all_goals first
      | exact Vc.mk hvc
      | (refine Res.mk ?_; unfold badN; rw [decide_eq_true ‹_ < (0 : Int)›]; rfl)
      | (refine Res.mk ?_; unfold badN; rw [decide_eq_false (Int.not_lt.2 ‹(0 : Int) ≤ _›)]; rfl)
  · rename_i n_at o_n n
    obtain ⟨hvc, rfl, rfl⟩ := h.vc
    clear h hfit
    change List Item at n
    conv => whnf
    repeat' (first
      | (refine And.intro ?_ ?_ <;> try conv => whnf)
      | (intro hh; first | (cases hh; done) | conv => whnf))
    all_goals try first | rfl | kernel_rfl
    all_goals try simp only [decide_eq_true_eq, decide_eq_false_iff_not] at *
    all_goals try simp only [Key_eta, Share_eta, Journey_eta, Batch_eta, FieldT_eta, OpB_eta, Product_eta, Item_eta, Delta_eta, Elem_eta, Rule_eta, Do10_eta, Ask_eta, Key_beq, Share_beq, Journey_beq, FieldT_beq, Product_beq, Item_beq, Do10_beq, Ask_beq, toNat0, toNat1, toNat2, toNat3, toNat4, toNat5, toNat6, toNat7, toNat8, toNat9, toNat10, toNat11, toNat12, toNat13, toNat14, toNat15, toNat16, toNat17, toNat18, toNat19, iA, iOf, atS, rwA, castK, zK, true_and, and_true, decide_eq_true_eq, decide_eq_false_iff_not, beq_iff_eq, bne_iff_ne, beq_eq_false_iff_ne, bne_eq_false_iff_eq, Bool.not_eq_true', Bool.not_eq_false', Bool.not_eq_true, Bool.not_eq_false, Nat.succ_eq_add_one, Int.not_lt, Int.not_le, gt_iff_lt, ge_iff_le] at *
    all_goals first
      | exact Vc.mk hvc
      | (refine Res.mk ?_; unfold badN; rw [decide_eq_true ‹_ < (0 : Int)›]; rfl)
      | (refine Res.mk ?_; unfold badN; rw [decide_eq_false (Int.not_lt.2 ‹(0 : Int) ≤ _›)]; rfl)
  · rename_i n_at o_n n
    obtain ⟨hvc, rfl, rfl⟩ := h.vc
    clear h hfit
    change List Item at n
    conv => whnf
    repeat' (first
      | (refine And.intro ?_ ?_ <;> try conv => whnf)
      | (intro hh; first | (cases hh; done) | conv => whnf))
    all_goals try first | rfl | kernel_rfl
    all_goals try simp only [decide_eq_true_eq, decide_eq_false_iff_not] at *
    all_goals try simp only [Key_eta, Share_eta, Journey_eta, Batch_eta, FieldT_eta, OpB_eta, Product_eta, Item_eta, Delta_eta, Elem_eta, Rule_eta, Do10_eta, Ask_eta, Key_beq, Share_beq, Journey_beq, FieldT_beq, Product_beq, Item_beq, Do10_beq, Ask_beq, toNat0, toNat1, toNat2, toNat3, toNat4, toNat5, toNat6, toNat7, toNat8, toNat9, toNat10, toNat11, toNat12, toNat13, toNat14, toNat15, toNat16, toNat17, toNat18, toNat19, iA, iOf, atS, rwA, castK, zK, true_and, and_true, decide_eq_true_eq, decide_eq_false_iff_not, beq_iff_eq, bne_iff_ne, beq_eq_false_iff_ne, bne_eq_false_iff_eq, Bool.not_eq_true', Bool.not_eq_false', Bool.not_eq_true, Bool.not_eq_false, Nat.succ_eq_add_one, Int.not_lt, Int.not_le, gt_iff_lt, ge_iff_le] at *
    all_goals first
      | exact Vc.mk hvc
      | (refine Res.mk ?_; unfold badN; rw [decide_eq_true ‹_ < (0 : Int)›]; rfl)
      | (refine Res.mk ?_; unfold badN; rw [decide_eq_false (Int.not_lt.2 ‹(0 : Int) ≤ _›)]; rfl)
  · rename_i n_at o_n n
    obtain ⟨hvc, rfl, rfl⟩ := h.vc
    clear h hfit
    change List Item at n
    conv => whnf
    repeat' (first
      | (refine And.intro ?_ ?_ <;> try conv => whnf)
      | (intro hh; first | (cases hh; done) | conv => whnf))
    all_goals try first | rfl | kernel_rfl
    all_goals try simp only [decide_eq_true_eq, decide_eq_false_iff_not] at *
    all_goals try simp only [Key_eta, Share_eta, Journey_eta, Batch_eta, FieldT_eta, OpB_eta, Product_eta, Item_eta, Delta_eta, Elem_eta, Rule_eta, Do10_eta, Ask_eta, Key_beq, Share_beq, Journey_beq, FieldT_beq, Product_beq, Item_beq, Do10_beq, Ask_beq, toNat0, toNat1, toNat2, toNat3, toNat4, toNat5, toNat6, toNat7, toNat8, toNat9, toNat10, toNat11, toNat12, toNat13, toNat14, toNat15, toNat16, toNat17, toNat18, toNat19, iA, iOf, atS, rwA, castK, zK, true_and, and_true, decide_eq_true_eq, decide_eq_false_iff_not, beq_iff_eq, bne_iff_ne, beq_eq_false_iff_ne, bne_eq_false_iff_eq, Bool.not_eq_true', Bool.not_eq_false', Bool.not_eq_true, Bool.not_eq_false, Nat.succ_eq_add_one, Int.not_lt, Int.not_le, gt_iff_lt, ge_iff_le] at *
    all_goals first
      | exact Vc.mk hvc
      | (refine Res.mk ?_; unfold badN; rw [decide_eq_true ‹_ < (0 : Int)›]; rfl)
      | (refine Res.mk ?_; unfold badN; rw [decide_eq_false (Int.not_lt.2 ‹(0 : Int) ≤ _›)]; rfl)
  · rename_i n_at o_n n
    obtain ⟨hvc, rfl, rfl⟩ := h.vc
    clear h hfit
    change List Item at n
    conv => whnf
    repeat' (first
      | (refine And.intro ?_ ?_ <;> try conv => whnf)
      | (intro hh; first | (cases hh; done) | conv => whnf))
    all_goals try first | rfl | kernel_rfl
    all_goals try simp only [decide_eq_true_eq, decide_eq_false_iff_not] at *
    all_goals try simp only [Key_eta, Share_eta, Journey_eta, Batch_eta, FieldT_eta, OpB_eta, Product_eta, Item_eta, Delta_eta, Elem_eta, Rule_eta, Do10_eta, Ask_eta, Key_beq, Share_beq, Journey_beq, FieldT_beq, Product_beq, Item_beq, Do10_beq, Ask_beq, toNat0, toNat1, toNat2, toNat3, toNat4, toNat5, toNat6, toNat7, toNat8, toNat9, toNat10, toNat11, toNat12, toNat13, toNat14, toNat15, toNat16, toNat17, toNat18, toNat19, iA, iOf, atS, rwA, castK, zK, true_and, and_true, decide_eq_true_eq, decide_eq_false_iff_not, beq_iff_eq, bne_iff_ne, beq_eq_false_iff_ne, bne_eq_false_iff_eq, Bool.not_eq_true', Bool.not_eq_false', Bool.not_eq_true, Bool.not_eq_false, Nat.succ_eq_add_one, Int.not_lt, Int.not_le, gt_iff_lt, ge_iff_le] at *
    all_goals first
      | exact Vc.mk hvc
      | (refine Res.mk ?_; unfold badN; rw [decide_eq_true ‹_ < (0 : Int)›]; rfl)
      | (refine Res.mk ?_; unfold badN; rw [decide_eq_false (Int.not_lt.2 ‹(0 : Int) ≤ _›)]; rfl)
  · exact h.fail.elim

def T_slices_IndexFunc_int_int : TT := [(3, ⟨.int .i64, 1, 8, [.int .i64 0], some .int⟩),
  (4, ⟨.bool, 1, 1, [.bool false], some .bool⟩),
  (125, ⟨.slice 126, 1, 24, [.slice none 0 0], none⟩),
  (126, ⟨.ptr, 1, 8, [.pointer none], none⟩),
  (129, ⟨.other, 1, 8, [.nilFunc], none⟩)]
theorem tOk_slices_IndexFunc_int_int : TOk Try.prog T_slices_IndexFunc_int_int := tOk_of (by kernel_rfl)
def sp_slices_IndexFunc_int_int : Spec := fun args hp => match args, hp with
  | [.slC 0 5, .fn (.func 60) [] []], [(0, .cells [.elt 1 s_at 0, .elt 1 s_at1 1, .elt 1 s_at2 2, .elt 1 s_at3 3, .elt 1 s_at4 4]), (1, .row o_s .item s)] => .vc ((s_at1 = s_at ∧ s_at2 = s_at ∧ s_at3 = s_at ∧ s_at4 = s_at) ∧ 0 ≤ s_at ∧ s_at < s.length) (iv (badAt (s.getD s_at.toNat (⟨0, 0, 0, 0, 0⟩ : Item)))) []
  | _, _ => .fail "slices_IndexFunc_int_int"
abbrev k_slices_IndexFunc_int_int : List (Option RK) := [none, none]
def a_slices_IndexFunc_int_int : List SV → List (Nat × VB) → Anns := fun args hp => match args, hp with
  | [.slC 0 5, .fn (.func 60) [] []], [(0, .cells [.elt 1 s_at 0, .elt 1 s_at1 1, .elt 1 s_at2 2, .elt 1 s_at3 3, .elt 1 s_at4 4]), (1, .row o_s .item s)] => [(2, fun S => .unroll 6)]
  | _, _ => []
set_option maxHeartbeats 20000000 in
theorem ok_slices_IndexFunc_int_int : GOk Try.prog 111 (lift k_slices_IndexFunc_int_int sp_slices_IndexFunc_int_int) := by
  refine pf_ok (T := T_slices_IndexFunc_int_int) (Γ := (60, lift k_lists_Put_1 sp_lists_Put_1) :: []) tOk_slices_IndexFunc_int_int (gOks_cons ok_lists_Put_1 (gOks_nil _)) mixed Try.func111 (c := body Try.f111) (by kernel_rfl) (by kernel_rfl) k_slices_IndexFunc_int_int sp_slices_IndexFunc_int_int (by kernel_rfl) (by kernel_rfl) a_slices_IndexFunc_int_int ?_
  intro args hp s u hfit h
  unfold sp_slices_IndexFunc_int_int at h
  split at h
  · rename_i s_at s_at1 s_at2 s_at3 s_at4 o_s s
    obtain ⟨hvc, rfl, rfl⟩ := h.vc
    clear h hfit
    conv => whnf
    repeat' (first
      | (refine And.intro ?_ ?_ <;> try conv => whnf)
      | (intro hh; first | (cases hh; done) | conv => whnf))
    all_goals try first | rfl | kernel_rfl
    all_goals try simp only [decide_eq_true_eq, decide_eq_false_iff_not] at *
    all_goals try simp only [Key_eta, Share_eta, Journey_eta, Batch_eta, FieldT_eta, OpB_eta, Product_eta, Item_eta, Delta_eta, Elem_eta, Rule_eta, Do10_eta, Ask_eta, Key_beq, Share_beq, Journey_beq, FieldT_beq, Product_beq, Item_beq, Do10_beq, Ask_beq, toNat0, toNat1, toNat2, toNat3, toNat4, toNat5, toNat6, toNat7, toNat8, toNat9, toNat10, toNat11, toNat12, toNat13, toNat14, toNat15, toNat16, toNat17, toNat18, toNat19, iA, iOf, atS, rwA, castK, zK, true_and, and_true, decide_eq_true_eq, decide_eq_false_iff_not, beq_iff_eq, bne_iff_ne, beq_eq_false_iff_ne, bne_eq_false_iff_eq, Bool.not_eq_true', Bool.not_eq_false', Bool.not_eq_true, Bool.not_eq_false, Nat.succ_eq_add_one, Int.not_lt, Int.not_le, gt_iff_lt, ge_iff_le, show bytesS T_slices_IndexFunc_int_int 125 = 8 from rfl] at *
    all_goals obtain ⟨⟨rfl, rfl, rfl, rfl⟩, h0, h1⟩ := hvc
    all_goals try (refine Vc.mk ?_; first | omega | decide | exact ⟨h0, h1⟩)
    all_goals (
      refine Res.mk ?_
      unfold badAt
      repeat (first | rw [if_pos (by assumption)] | rw [if_neg (by rw [Bool.not_eq_true]; assumption)])
      try (first | rfl | decide))
  · exact h.fail.elim

def T_slices_ContainsFunc_int_int : TT := [(3, ⟨.int .i64, 1, 8, [.int .i64 0], some .int⟩),
  (4, ⟨.bool, 1, 1, [.bool false], some .bool⟩),
  (125, ⟨.slice 126, 1, 24, [.slice none 0 0], none⟩),
  (126, ⟨.ptr, 1, 8, [.pointer none], none⟩),
  (129, ⟨.other, 1, 8, [.nilFunc], none⟩)]
theorem tOk_slices_ContainsFunc_int_int : TOk Try.prog T_slices_ContainsFunc_int_int := tOk_of (by kernel_rfl)
def sp_slices_ContainsFunc_int_int : Spec := fun args hp => match args, hp with
  | [.slC 0 5, .fn (.func 60) [] []], [(0, .cells [.elt 1 s_at 0, .elt 1 s_at1 1, .elt 1 s_at2 2, .elt 1 s_at3 3, .elt 1 s_at4 4]), (1, .row o_s .item s)] => .vc ((s_at1 = s_at ∧ s_at2 = s_at ∧ s_at3 = s_at ∧ s_at4 = s_at) ∧ 0 ≤ s_at ∧ s_at < s.length) (bv (decide (0 ≤ badAt (s.getD s_at.toNat (⟨0, 0, 0, 0, 0⟩ : Item))))) []
  | _, _ => .fail "slices_ContainsFunc_int_int"
abbrev k_slices_ContainsFunc_int_int : List (Option RK) := [none, none]
def a_slices_ContainsFunc_int_int : List SV → List (Nat × VB) → Anns := fun _ _ => []
set_option maxHeartbeats 20000000 in
theorem ok_slices_ContainsFunc_int_int : GOk Try.prog 58 (lift k_slices_ContainsFunc_int_int sp_slices_ContainsFunc_int_int) := by
  refine pf_ok (T := T_slices_ContainsFunc_int_int) (Γ := (111, lift k_slices_IndexFunc_int_int sp_slices_IndexFunc_int_int) :: []) tOk_slices_ContainsFunc_int_int (gOks_cons ok_slices_IndexFunc_int_int (gOks_nil _)) mixed Try.func58 (c := body Try.f58) (by kernel_rfl) (by kernel_rfl) k_slices_ContainsFunc_int_int sp_slices_ContainsFunc_int_int (by kernel_rfl) (by kernel_rfl) a_slices_ContainsFunc_int_int ?_
  intro args hp s u hfit h
  unfold sp_slices_ContainsFunc_int_int at h
  split at h
  · rename_i s_at s_at1 s_at2 s_at3 s_at4 o_s s
    obtain ⟨hvc, rfl, rfl⟩ := h.vc
    clear h hfit
    conv => whnf
    repeat' (first
      | (refine And.intro ?_ ?_ <;> try conv => whnf)
      | (intro hh; first | (cases hh; done) | conv => whnf))
    all_goals try first | rfl | kernel_rfl
    all_goals try simp only [decide_eq_true_eq, decide_eq_false_iff_not] at *
    all_goals try simp only [Key_eta, Share_eta, Journey_eta, Batch_eta, FieldT_eta, OpB_eta, Product_eta, Item_eta, Delta_eta, Elem_eta, Rule_eta, Do10_eta, Ask_eta, Key_beq, Share_beq, Journey_beq, FieldT_beq, Product_beq, Item_beq, Do10_beq, Ask_beq, toNat0, toNat1, toNat2, toNat3, toNat4, toNat5, toNat6, toNat7, toNat8, toNat9, toNat10, toNat11, toNat12, toNat13, toNat14, toNat15, toNat16, toNat17, toNat18, toNat19, iA, iOf, atS, rwA, castK, zK, true_and, and_true, decide_eq_true_eq, decide_eq_false_iff_not, beq_iff_eq, bne_iff_ne, beq_eq_false_iff_ne, bne_eq_false_iff_eq, Bool.not_eq_true', Bool.not_eq_false', Bool.not_eq_true, Bool.not_eq_false, Nat.succ_eq_add_one, Int.not_lt, Int.not_le, gt_iff_lt, ge_iff_le, show bytesS T_slices_ContainsFunc_int_int 125 = 8 from rfl] at *
    all_goals first | exact Vc.mk hvc | exact Vc.mk ⟨hvc.1, hvc.2⟩ | exact Res.mk trivial
  · exact h.fail.elim

end Go.Proofs.Ythbmllekbbfobaa.Sx
