import Derived.Test.YthbmllekbbfobaaProg
import Derived.Test.YthbmllekbbfobaaSxU
import Derived.IntWalk
import Derived.Test.YthbmllekbbfobaaL5r
/-! lists, small functions -/
namespace Go.Proofs.Ythbmllekbbfobaa.Sx
open Go
set_option linter.unusedVariables false
set_option linter.unusedSimpArgs false
set_option maxRecDepth 100000

def T_lists_named : TT := [(3, ⟨.int .i64, 1, 8, [.int .i64 0], some .int⟩),
  (4, ⟨.bool, 1, 1, [.bool false], some .bool⟩),
  (52, ⟨.strct [(0, 3), (1, 3), (2, 3), (3, 3), (4, 3)], 5, 40, [.int .i64 0, .int .i64 0, .int .i64 0, .int .i64 0, .int .i64 0], some .item⟩)]
theorem tOk_lists_named : TOk Try.prog T_lists_named := tOk_of (by kernel_rfl)
def sp_lists_named : Spec := fun args hp => match args, hp with
  | [.agg x_cs], [] => (match decS .item x_cs with
    | some x => .ok (bv (namedI x)) []
    | none => .fail "struct")
  | _, _ => .fail "lists_named"
abbrev k_lists_named : List (Option RK) := [none]
def a_lists_named : List SV → List (Nat × VB) → Anns := fun _ _ => []
set_option maxHeartbeats 20000000 in
theorem ok_lists_named : GOk Try.prog 73 (lift k_lists_named sp_lists_named) := by
  refine pf_ok (T := T_lists_named) (Γ := []) tOk_lists_named (gOks_nil _) mixed Try.func73 (c := body Try.f73) (by kernel_rfl) (by kernel_rfl) k_lists_named sp_lists_named (by kernel_rfl) (by kernel_rfl) a_lists_named ?_
  intro args hp s u hfit h
  unfold sp_lists_named at h
  split at h
  · rename_i x_cs
    split at h
    case h_2 => exact h.fail.elim
    rename_i x h_x
    obtain rfl := decS_ok (k := .item) rfl h_x
    clear h_x
    change Item at x
    obtain ⟨rfl, rfl⟩ := h.ok
    clear h hfit
    conv => whnf
    repeat' (first
      | (refine And.intro ?_ ?_ <;> try conv => whnf)
      | (intro hh; first | (cases hh; done) | conv => whnf))
    all_goals try first | rfl | kernel_rfl
    all_goals try simp only [decide_eq_true_eq, decide_eq_false_iff_not] at *
    all_goals try simp only [Key_eta, Share_eta, Journey_eta, Batch_eta, FieldT_eta, OpB_eta, Product_eta, Item_eta, Delta_eta, Elem_eta, Rule_eta, Do10_eta, Ask_eta, Key_beq, Share_beq, Journey_beq, FieldT_beq, Product_beq, Item_beq, Do10_beq, Ask_beq, toNat0, toNat1, toNat2, toNat3, toNat4, toNat5, toNat6, toNat7, toNat8, toNat9, toNat10, toNat11, toNat12, toNat13, toNat14, toNat15, toNat16, toNat17, toNat18, toNat19, iA, iOf, atS, rwA, castK, zK, true_and, and_true, decide_eq_true_eq, decide_eq_false_iff_not, beq_iff_eq, bne_iff_ne, beq_eq_false_iff_ne, bne_eq_false_iff_eq, Bool.not_eq_true', Bool.not_eq_false', Bool.not_eq_true, Bool.not_eq_false, Nat.succ_eq_add_one, Int.not_lt, Int.not_le, gt_iff_lt, ge_iff_le] at *
    all_goals (
      refine Res.mk ?_
      rw [Bool.eq_iff_iff]
      by_cases e1 : x.owner = 0 <;> by_cases e2 : x.id = 0 <;> simp [namedI, e1, e2, beqInt] at * <;> omega)
  · exact h.fail.elim

def T_lists_about : TT := [(3, ⟨.int .i64, 1, 8, [.int .i64 0], some .int⟩),
  (4, ⟨.bool, 1, 1, [.bool false], some .bool⟩),
  (52, ⟨.strct [(0, 3), (1, 3), (2, 3), (3, 3), (4, 3)], 5, 40, [.int .i64 0, .int .i64 0, .int .i64 0, .int .i64 0, .int .i64 0], some .item⟩)]
theorem tOk_lists_about : TOk Try.prog T_lists_about := tOk_of (by kernel_rfl)
def sp_lists_about : Spec := fun args hp => match args, hp with
  | [.agg x_cs, .val (.int .i64 card), .val (.int .i64 owner), .val (.int .i64 id)], [] => (match decS .item x_cs with
    | some x => .ok (bv (aboutI x card owner id)) []
    | none => .fail "struct")
  | _, _ => .fail "lists_about"
abbrev k_lists_about : List (Option RK) := [none, none, none, none]
def a_lists_about : List SV → List (Nat × VB) → Anns := fun _ _ => []
set_option maxHeartbeats 20000000 in
theorem ok_lists_about : GOk Try.prog 76 (lift k_lists_about sp_lists_about) := by
  refine pf_ok (T := T_lists_about) (Γ := []) tOk_lists_about (gOks_nil _) mixed Try.func76 (c := body Try.f76) (by kernel_rfl) (by kernel_rfl) k_lists_about sp_lists_about (by kernel_rfl) (by kernel_rfl) a_lists_about ?_
  intro args hp s u hfit h
  unfold sp_lists_about at h
  split at h
  · rename_i x_cs card owner id
    split at h
    case h_2 => exact h.fail.elim
    rename_i x h_x
    obtain rfl := decS_ok (k := .item) rfl h_x
    clear h_x
    change Item at x
    obtain ⟨rfl, rfl⟩ := h.ok
    clear h hfit
    conv => whnf
    repeat' (first
      | (refine And.intro ?_ ?_ <;> try conv => whnf)
      | (intro hh; first | (cases hh; done) | conv => whnf))
    all_goals try first | rfl | kernel_rfl
    all_goals try simp only [decide_eq_true_eq, decide_eq_false_iff_not] at *
    all_goals try simp only [Key_eta, Share_eta, Journey_eta, Batch_eta, FieldT_eta, OpB_eta, Product_eta, Item_eta, Delta_eta, Elem_eta, Rule_eta, Do10_eta, Ask_eta, Key_beq, Share_beq, Journey_beq, FieldT_beq, Product_beq, Item_beq, Do10_beq, Ask_beq, toNat0, toNat1, toNat2, toNat3, toNat4, toNat5, toNat6, toNat7, toNat8, toNat9, toNat10, toNat11, toNat12, toNat13, toNat14, toNat15, toNat16, toNat17, toNat18, toNat19, iA, iOf, atS, rwA, castK, zK, true_and, and_true, decide_eq_true_eq, decide_eq_false_iff_not, beq_iff_eq, bne_iff_ne, beq_eq_false_iff_ne, bne_eq_false_iff_eq, Bool.not_eq_true', Bool.not_eq_false', Bool.not_eq_true, Bool.not_eq_false, Nat.succ_eq_add_one, Int.not_lt, Int.not_le, gt_iff_lt, ge_iff_le] at *
    all_goals (refine Res.mk ?_; first | (simp [aboutI, *]; done) | (simp_all [aboutI]; done) | (simp_all [aboutI]; omega) | (rw [Bool.eq_iff_iff]; simp [aboutI, *]; omega) | (rw [Bool.eq_iff_iff]; simp [aboutI]; omega))
  · exact h.fail.elim

def T_lists_Hot_Apply_1 : TT := [(3, ⟨.int .i64, 1, 8, [.int .i64 0], some .int⟩),
  (4, ⟨.bool, 1, 1, [.bool false], some .bool⟩),
  (52, ⟨.strct [(0, 3), (1, 3), (2, 3), (3, 3), (4, 3)], 5, 40, [.int .i64 0, .int .i64 0, .int .i64 0, .int .i64 0, .int .i64 0], some .item⟩)]
theorem tOk_lists_Hot_Apply_1 : TOk Try.prog T_lists_Hot_Apply_1 := tOk_of (by kernel_rfl)
def sp_lists_Hot_Apply_1 : Spec := fun args hp => match args, hp with
  | [.agg x_cs], [] => (match decS .item x_cs with
    | some x => .ok (bv (hotI x)) []
    | none => .fail "struct")
  | _, _ => .fail "lists_Hot_Apply_1"
abbrev k_lists_Hot_Apply_1 : List (Option RK) := [none]
def a_lists_Hot_Apply_1 : List SV → List (Nat × VB) → Anns := fun _ _ => []
set_option maxHeartbeats 20000000 in
theorem ok_lists_Hot_Apply_1 : GOk Try.prog 72 (lift k_lists_Hot_Apply_1 sp_lists_Hot_Apply_1) := by
  refine pf_ok (T := T_lists_Hot_Apply_1) (Γ := (73, lift k_lists_named sp_lists_named) :: []) tOk_lists_Hot_Apply_1 (gOks_cons ok_lists_named (gOks_nil _)) mixed Try.func72 (c := body Try.f72) (by kernel_rfl) (by kernel_rfl) k_lists_Hot_Apply_1 sp_lists_Hot_Apply_1 (by kernel_rfl) (by kernel_rfl) a_lists_Hot_Apply_1 ?_
  intro args hp s u hfit h
  unfold sp_lists_Hot_Apply_1 at h
  split at h
  · rename_i x_cs
    split at h
    case h_2 => exact h.fail.elim
    rename_i x h_x
    obtain rfl := decS_ok (k := .item) rfl h_x
    clear h_x
    change Item at x
    obtain ⟨rfl, rfl⟩ := h.ok
    clear h hfit
    conv => whnf
    repeat' (first
      | (refine And.intro ?_ ?_ <;> try conv => whnf)
      | (intro hh; first | (cases hh; done) | conv => whnf))
    all_goals try first | rfl | kernel_rfl
    all_goals try simp only [decide_eq_true_eq, decide_eq_false_iff_not] at *
    all_goals try simp only [Key_eta, Share_eta, Journey_eta, Batch_eta, FieldT_eta, OpB_eta, Product_eta, Item_eta, Delta_eta, Elem_eta, Rule_eta, Do10_eta, Ask_eta, Key_beq, Share_beq, Journey_beq, FieldT_beq, Product_beq, Item_beq, Do10_beq, Ask_beq, toNat0, toNat1, toNat2, toNat3, toNat4, toNat5, toNat6, toNat7, toNat8, toNat9, toNat10, toNat11, toNat12, toNat13, toNat14, toNat15, toNat16, toNat17, toNat18, toNat19, iA, iOf, atS, rwA, castK, zK, true_and, and_true, decide_eq_true_eq, decide_eq_false_iff_not, beq_iff_eq, bne_iff_ne, beq_eq_false_iff_ne, bne_eq_false_iff_eq, Bool.not_eq_true', Bool.not_eq_false', Bool.not_eq_true, Bool.not_eq_false, Nat.succ_eq_add_one, Int.not_lt, Int.not_le, gt_iff_lt, ge_iff_le, named_eta, about_eta] at *
    all_goals (refine Res.mk ?_; first | (simp [hotI, *]; done) | (simp_all [hotI, beqInt]; done) | (simp_all [hotI, beqInt]; omega) | (rw [Bool.eq_iff_iff]; simp [hotI, *]; omega) | (rw [Bool.eq_iff_iff]; simp [hotI]; omega))
  · exact h.fail.elim

def T_lists_Act_Apply_1 : TT := [(3, ⟨.int .i64, 1, 8, [.int .i64 0], some .int⟩),
  (4, ⟨.bool, 1, 1, [.bool false], some .bool⟩),
  (52, ⟨.strct [(0, 3), (1, 3), (2, 3), (3, 3), (4, 3)], 5, 40, [.int .i64 0, .int .i64 0, .int .i64 0, .int .i64 0, .int .i64 0], some .item⟩)]
theorem tOk_lists_Act_Apply_1 : TOk Try.prog T_lists_Act_Apply_1 := tOk_of (by kernel_rfl)
def sp_lists_Act_Apply_1 : Spec := fun args hp => match args, hp with
  | [.agg x_cs], [] => (match decS .item x_cs with
    | some x => .ok (bv (actI x)) []
    | none => .fail "struct")
  | _, _ => .fail "lists_Act_Apply_1"
abbrev k_lists_Act_Apply_1 : List (Option RK) := [none]
def a_lists_Act_Apply_1 : List SV → List (Nat × VB) → Anns := fun _ _ => []
set_option maxHeartbeats 20000000 in
theorem ok_lists_Act_Apply_1 : GOk Try.prog 90 (lift k_lists_Act_Apply_1 sp_lists_Act_Apply_1) := by
  refine pf_ok (T := T_lists_Act_Apply_1) (Γ := (73, lift k_lists_named sp_lists_named) :: []) tOk_lists_Act_Apply_1 (gOks_cons ok_lists_named (gOks_nil _)) mixed Try.func90 (c := body Try.f90) (by kernel_rfl) (by kernel_rfl) k_lists_Act_Apply_1 sp_lists_Act_Apply_1 (by kernel_rfl) (by kernel_rfl) a_lists_Act_Apply_1 ?_
  intro args hp s u hfit h
  unfold sp_lists_Act_Apply_1 at h
  split at h
  · rename_i x_cs
    split at h
    case h_2 => exact h.fail.elim
    rename_i x h_x
    obtain rfl := decS_ok (k := .item) rfl h_x
    clear h_x
    change Item at x
    obtain ⟨rfl, rfl⟩ := h.ok
    clear h hfit
    conv => whnf
    repeat' (first
      | (refine And.intro ?_ ?_ <;> try conv => whnf)
      | (intro hh; first | (cases hh; done) | conv => whnf))
    all_goals try first | rfl | kernel_rfl
    all_goals try simp only [decide_eq_true_eq, decide_eq_false_iff_not] at *
    all_goals try simp only [Key_eta, Share_eta, Journey_eta, Batch_eta, FieldT_eta, OpB_eta, Product_eta, Item_eta, Delta_eta, Elem_eta, Rule_eta, Do10_eta, Ask_eta, Key_beq, Share_beq, Journey_beq, FieldT_beq, Product_beq, Item_beq, Do10_beq, Ask_beq, toNat0, toNat1, toNat2, toNat3, toNat4, toNat5, toNat6, toNat7, toNat8, toNat9, toNat10, toNat11, toNat12, toNat13, toNat14, toNat15, toNat16, toNat17, toNat18, toNat19, iA, iOf, atS, rwA, castK, zK, true_and, and_true, decide_eq_true_eq, decide_eq_false_iff_not, beq_iff_eq, bne_iff_ne, beq_eq_false_iff_ne, bne_eq_false_iff_eq, Bool.not_eq_true', Bool.not_eq_false', Bool.not_eq_true, Bool.not_eq_false, Nat.succ_eq_add_one, Int.not_lt, Int.not_le, gt_iff_lt, ge_iff_le, named_eta, about_eta] at *
    all_goals (refine Res.mk ?_; first | (simp [actI, *]; done) | (simp_all [actI, beqInt]; done) | (simp_all [actI, beqInt]; omega) | (rw [Bool.eq_iff_iff]; simp [actI, *]; omega) | (rw [Bool.eq_iff_iff]; simp [actI]; omega))
  · exact h.fail.elim

def T_lists_Hot_Has_1 : TT := [(3, ⟨.int .i64, 1, 8, [.int .i64 0], some .int⟩),
  (4, ⟨.bool, 1, 1, [.bool false], some .bool⟩),
  (52, ⟨.strct [(0, 3), (1, 3), (2, 3), (3, 3), (4, 3)], 5, 40, [.int .i64 0, .int .i64 0, .int .i64 0, .int .i64 0, .int .i64 0], some .item⟩)]
theorem tOk_lists_Hot_Has_1 : TOk Try.prog T_lists_Hot_Has_1 := tOk_of (by kernel_rfl)
def sp_lists_Hot_Has_1 : Spec := fun args hp => match args, hp with
  | [.agg x_cs, .ptr 0 0, .ptr 1 0, .ptr 2 0], [(0, .cells [.val (.int .i64 c_v)]), (1, .cells [.val (.int .i64 o_v)]), (2, .cells [.val (.int .i64 k_v)])] => (match decS .item x_cs with
    | some x => .ok (bv (hitI c_v o_v k_v x)) []
    | none => .fail "struct")
  | _, _ => .fail "lists_Hot_Has_1"
abbrev k_lists_Hot_Has_1 : List (Option RK) := [none, none, none, none]
def a_lists_Hot_Has_1 : List SV → List (Nat × VB) → Anns := fun _ _ => []
set_option maxHeartbeats 20000000 in
theorem ok_lists_Hot_Has_1 : GOk Try.prog 75 (lift k_lists_Hot_Has_1 sp_lists_Hot_Has_1) := by
  refine pf_ok (T := T_lists_Hot_Has_1) (Γ := (76, lift k_lists_about sp_lists_about) :: []) tOk_lists_Hot_Has_1 (gOks_cons ok_lists_about (gOks_nil _)) mixed Try.func75 (c := body Try.f75) (by kernel_rfl) (by kernel_rfl) k_lists_Hot_Has_1 sp_lists_Hot_Has_1 (by kernel_rfl) (by kernel_rfl) a_lists_Hot_Has_1 ?_
  intro args hp s u hfit h
  unfold sp_lists_Hot_Has_1 at h
  split at h
  · rename_i x_cs c_v o_v k_v
    split at h
    case h_2 => exact h.fail.elim
    rename_i x h_x
    obtain rfl := decS_ok (k := .item) rfl h_x
    clear h_x
    change Item at x
    obtain ⟨rfl, rfl⟩ := h.ok
    clear h hfit
    conv => whnf
    repeat' (first
      | (refine And.intro ?_ ?_ <;> try conv => whnf)
      | (intro hh; first | (cases hh; done) | conv => whnf))
    all_goals try first | rfl | kernel_rfl
    all_goals try simp only [decide_eq_true_eq, decide_eq_false_iff_not] at *
    all_goals try simp only [Key_eta, Share_eta, Journey_eta, Batch_eta, FieldT_eta, OpB_eta, Product_eta, Item_eta, Delta_eta, Elem_eta, Rule_eta, Do10_eta, Ask_eta, Key_beq, Share_beq, Journey_beq, FieldT_beq, Product_beq, Item_beq, Do10_beq, Ask_beq, toNat0, toNat1, toNat2, toNat3, toNat4, toNat5, toNat6, toNat7, toNat8, toNat9, toNat10, toNat11, toNat12, toNat13, toNat14, toNat15, toNat16, toNat17, toNat18, toNat19, iA, iOf, atS, rwA, castK, zK, true_and, and_true, decide_eq_true_eq, decide_eq_false_iff_not, beq_iff_eq, bne_iff_ne, beq_eq_false_iff_ne, bne_eq_false_iff_eq, Bool.not_eq_true', Bool.not_eq_false', Bool.not_eq_true, Bool.not_eq_false, Nat.succ_eq_add_one, Int.not_lt, Int.not_le, gt_iff_lt, ge_iff_le, named_eta, about_eta] at *
    all_goals (refine Res.mk ?_; first | (simp [hitI, aboutI, *]; done) | (simp_all [hitI, aboutI, beqInt]; done) | (simp_all [hitI, aboutI, beqInt]; omega) | (rw [Bool.eq_iff_iff]; simp [hitI, aboutI, *]; omega) | (rw [Bool.eq_iff_iff]; simp [hitI, aboutI]; omega))
  · exact h.fail.elim

def T_slices_Index_api_Item_api_Item : TT := [(3, ⟨.int .i64, 1, 8, [.int .i64 0], some .int⟩),
  (4, ⟨.bool, 1, 1, [.bool false], some .bool⟩),
  (22, ⟨.slice 52, 1, 24, [.slice none 0 0], none⟩),
  (52, ⟨.strct [(0, 3), (1, 3), (2, 3), (3, 3), (4, 3)], 5, 40, [.int .i64 0, .int .i64 0, .int .i64 0, .int .i64 0, .int .i64 0], some .item⟩)]
theorem tOk_slices_Index_api_Item_api_Item : TOk Try.prog T_slices_Index_api_Item_api_Item := tOk_of (by kernel_rfl)
def sp_slices_Index_api_Item_api_Item : Spec := fun args hp => match args, hp with
  | [.slF 0, .agg x_cs], [(0, .row o_xs .item xs)] => (match decS .item x_cs with
    | some x => .vc (xs.length ≤ 1099511627776) (iv (idxP (eqI x) xs 0)) []
    | none => .fail "struct")
  | _, _ => .fail "slices_Index_api_Item_api_Item"
abbrev k_slices_Index_api_Item_api_Item : List (Option RK) := [some .item, none]
def a_slices_Index_api_Item_api_Item : List SV → List (Nat × VB) → Anns := fun args hp => match args, hp with
  | [.slF 0, .agg x_cs], [(0, .row o_xs .item xs)] => (match decS .item x_cs with
    | some x => [(2, fun S => .inv [] [] [] fun ids vs rs => { cars := [.i 8 .i64], inv := fun ((i, _) : Int × Unit) => IAny (eqI x) xs i, mu := fun ((i, _) : Int × Unit) => xs.length - i.toNat })]
    | none => [])
  | _, _ => []
set_option maxHeartbeats 20000000 in
theorem ok_slices_Index_api_Item_api_Item : GOk Try.prog 146 (lift k_slices_Index_api_Item_api_Item sp_slices_Index_api_Item_api_Item) := by
  refine pf_ok (T := T_slices_Index_api_Item_api_Item) (Γ := []) tOk_slices_Index_api_Item_api_Item (gOks_nil _) mixed Try.func146 (c := body Try.f146) (by kernel_rfl) (by kernel_rfl) k_slices_Index_api_Item_api_Item sp_slices_Index_api_Item_api_Item (by kernel_rfl) (by kernel_rfl) a_slices_Index_api_Item_api_Item ?_
  intro args hp s u hfit h
  unfold sp_slices_Index_api_Item_api_Item at h
  split at h
  · rename_i x_cs o_xs xs
    split at h
    case h_2 => exact h.fail.elim
    rename_i x h_x
    obtain rfl := decS_ok (k := .item) rfl h_x
    clear h_x
    change Item at x
    obtain ⟨hvc, rfl, rfl⟩ := h.vc
    clear h hfit
    change List Item at xs
    conv => whnf
    repeat' (first
      | (refine And.intro ?_ ?_ <;> try conv => whnf)
      | (intro hh; first | (cases hh; done) | conv => whnf))
    all_goals try first | rfl | kernel_rfl
    all_goals try simp only [decide_eq_true_eq, decide_eq_false_iff_not] at *
    all_goals try simp only [Key_eta, Share_eta, Journey_eta, Batch_eta, FieldT_eta, OpB_eta, Product_eta, Item_eta, Delta_eta, Elem_eta, Rule_eta, Do10_eta, Ask_eta, Key_beq, Share_beq, Journey_beq, FieldT_beq, Product_beq, Item_beq, Do10_beq, Ask_beq, toNat0, toNat1, toNat2, toNat3, toNat4, toNat5, toNat6, toNat7, toNat8, toNat9, toNat10, toNat11, toNat12, toNat13, toNat14, toNat15, toNat16, toNat17, toNat18, toNat19, iA, iOf, atS, rwA, castK, zK, true_and, and_true, decide_eq_true_eq, decide_eq_false_iff_not, beq_iff_eq, bne_iff_ne, beq_eq_false_iff_ne, bne_eq_false_iff_eq, Bool.not_eq_true', Bool.not_eq_false', Bool.not_eq_true, Bool.not_eq_false, Nat.succ_eq_add_one, Int.not_lt, Int.not_le, gt_iff_lt, ge_iff_le, show bytesS T_slices_Index_api_Item_api_Item 22 = 40 from rfl] at *
    all_goals try (obtain ⟨j, hj, rfl, hb⟩ := ‹IAny _ _ _›)
    all_goals try (refine Vc.mk ?_; omega)
    · exact ⟨⟨0, Nat.zero_le _, rfl, rfl⟩⟩
    · refine Res.mk ?_
      rw [idxP_at (d := (⟨0, 0, 0, 0, 0⟩ : Item)) hb (by omega) (decide_eq_true ‹_›)]; omega
    · refine ⟨⟨j + 1, by omega, by rw [wrap64] <;> omega, ?_⟩, by rw [wrap64] <;> omega⟩
      rw [take_getD (d := (⟨0, 0, 0, 0, 0⟩ : Item)) (by omega), any_snoc, hb, (show eqI x (xs.getD j ⟨0, 0, 0, 0, 0⟩) = false from decide_eq_false ‹_›)]; rfl
    · refine Res.mk ?_
      rw [idxP_none]
      rw [← List.take_length (l := xs), show xs.length = j by omega]; exact hb
  · exact h.fail.elim

def T_slices_Contains_api_Item_api_Item : TT := [(3, ⟨.int .i64, 1, 8, [.int .i64 0], some .int⟩),
  (4, ⟨.bool, 1, 1, [.bool false], some .bool⟩),
  (22, ⟨.slice 52, 1, 24, [.slice none 0 0], none⟩),
  (52, ⟨.strct [(0, 3), (1, 3), (2, 3), (3, 3), (4, 3)], 5, 40, [.int .i64 0, .int .i64 0, .int .i64 0, .int .i64 0, .int .i64 0], some .item⟩)]
theorem tOk_slices_Contains_api_Item_api_Item : TOk Try.prog T_slices_Contains_api_Item_api_Item := tOk_of (by kernel_rfl)
def sp_slices_Contains_api_Item_api_Item : Spec := fun args hp => match args, hp with
  | [.slF 0, .agg x_cs], [(0, .row o_xs .item xs)] => (match decS .item x_cs with
    | some x => .vc (xs.length ≤ 1099511627776) (bv (decide (x ∈ xs))) []
    | none => .fail "struct")
  | _, _ => .fail "slices_Contains_api_Item_api_Item"
abbrev k_slices_Contains_api_Item_api_Item : List (Option RK) := [some .item, none]
def a_slices_Contains_api_Item_api_Item : List SV → List (Nat × VB) → Anns := fun _ _ => []
set_option maxHeartbeats 20000000 in
theorem ok_slices_Contains_api_Item_api_Item : GOk Try.prog 114 (lift k_slices_Contains_api_Item_api_Item sp_slices_Contains_api_Item_api_Item) := by
  refine pf_ok (T := T_slices_Contains_api_Item_api_Item) (Γ := (146, lift k_slices_Index_api_Item_api_Item sp_slices_Index_api_Item_api_Item) :: []) tOk_slices_Contains_api_Item_api_Item (gOks_cons ok_slices_Index_api_Item_api_Item (gOks_nil _)) mixed Try.func114 (c := body Try.f114) (by kernel_rfl) (by kernel_rfl) k_slices_Contains_api_Item_api_Item sp_slices_Contains_api_Item_api_Item (by kernel_rfl) (by kernel_rfl) a_slices_Contains_api_Item_api_Item ?_
  intro args hp s u hfit h
  unfold sp_slices_Contains_api_Item_api_Item at h
  split at h
  · rename_i x_cs o_xs xs
    split at h
    case h_2 => exact h.fail.elim
    rename_i x h_x
    obtain rfl := decS_ok (k := .item) rfl h_x
    clear h_x
    change Item at x
    obtain ⟨hvc, rfl, rfl⟩ := h.vc
    clear h hfit
    change List Item at xs
    conv => whnf
    repeat' (first
      | (refine And.intro ?_ ?_ <;> try conv => whnf)
      | (intro hh; first | (cases hh; done) | conv => whnf))
    all_goals try first | rfl | kernel_rfl
    all_goals try simp only [decide_eq_true_eq, decide_eq_false_iff_not] at *
    all_goals try simp only [Key_eta, Share_eta, Journey_eta, Batch_eta, FieldT_eta, OpB_eta, Product_eta, Item_eta, Delta_eta, Elem_eta, Rule_eta, Do10_eta, Ask_eta, Key_beq, Share_beq, Journey_beq, FieldT_beq, Product_beq, Item_beq, Do10_beq, Ask_beq, toNat0, toNat1, toNat2, toNat3, toNat4, toNat5, toNat6, toNat7, toNat8, toNat9, toNat10, toNat11, toNat12, toNat13, toNat14, toNat15, toNat16, toNat17, toNat18, toNat19, iA, iOf, atS, rwA, castK, zK, true_and, and_true, decide_eq_true_eq, decide_eq_false_iff_not, beq_iff_eq, bne_iff_ne, beq_eq_false_iff_ne, bne_eq_false_iff_eq, Bool.not_eq_true', Bool.not_eq_false', Bool.not_eq_true, Bool.not_eq_false, Nat.succ_eq_add_one, Int.not_lt, Int.not_le, gt_iff_lt, ge_iff_le, show bytesS T_slices_Contains_api_Item_api_Item 22 = 40 from rfl] at *
    all_goals first | exact Vc.mk hvc | (refine Res.mk ?_; rw [idxP_any (by decide), any_eqI])
  · exact h.fail.elim

def T_slices_IndexFunc_api_Item_api_ItemH : TT := [(3, ⟨.int .i64, 1, 8, [.int .i64 0], some .int⟩),
  (4, ⟨.bool, 1, 1, [.bool false], some .bool⟩),
  (22, ⟨.slice 52, 1, 24, [.slice none 0 0], none⟩),
  (52, ⟨.strct [(0, 3), (1, 3), (2, 3), (3, 3), (4, 3)], 5, 40, [.int .i64 0, .int .i64 0, .int .i64 0, .int .i64 0, .int .i64 0], some .item⟩),
  (147, ⟨.other, 1, 8, [.nilFunc], none⟩)]
theorem tOk_slices_IndexFunc_api_Item_api_ItemH : TOk Try.prog T_slices_IndexFunc_api_Item_api_ItemH := tOk_of (by kernel_rfl)
def sp_slices_IndexFunc_api_Item_api_ItemH : Spec := fun args hp => match args, hp with
  | [.slF 0, .fn (.func 75) [] [.ptr 1 0, .ptr 2 0, .ptr 3 0]], [(0, .row o_xs .item xs), (1, .cells [.val (.int .i64 c_v)]), (2, .cells [.val (.int .i64 o_v)]), (3, .cells [.val (.int .i64 k_v)])] => .vc (xs.length ≤ 1099511627776) (iv (idxP (hitI c_v o_v k_v) xs 0)) []
  | _, _ => .fail "slices_IndexFunc_api_Item_api_ItemH"
abbrev k_slices_IndexFunc_api_Item_api_ItemH : List (Option RK) := [some .item, none]
def a_slices_IndexFunc_api_Item_api_ItemH : List SV → List (Nat × VB) → Anns := fun args hp => match args, hp with
  | [.slF 0, .fn (.func 75) [] [.ptr 1 0, .ptr 2 0, .ptr 3 0]], [(0, .row o_xs .item xs), (1, .cells [.val (.int .i64 c_v)]), (2, .cells [.val (.int .i64 o_v)]), (3, .cells [.val (.int .i64 k_v)])] => [(2, fun S => .inv [] [] [] fun ids vs rs => { cars := [.i 8 .i64], inv := fun ((i, _) : Int × Unit) => IAny (hitI c_v o_v k_v) xs i, mu := fun ((i, _) : Int × Unit) => xs.length - i.toNat })]
  | _, _ => []
set_option maxHeartbeats 20000000 in
theorem ok_slices_IndexFunc_api_Item_api_ItemH : GOk Try.prog 115 (lift k_slices_IndexFunc_api_Item_api_ItemH sp_slices_IndexFunc_api_Item_api_ItemH) := by
  refine pf_ok (T := T_slices_IndexFunc_api_Item_api_ItemH) (Γ := (75, lift k_lists_Hot_Has_1 sp_lists_Hot_Has_1) :: []) tOk_slices_IndexFunc_api_Item_api_ItemH (gOks_cons ok_lists_Hot_Has_1 (gOks_nil _)) mixed Try.func115 (c := body Try.f115) (by kernel_rfl) (by kernel_rfl) k_slices_IndexFunc_api_Item_api_ItemH sp_slices_IndexFunc_api_Item_api_ItemH (by kernel_rfl) (by kernel_rfl) a_slices_IndexFunc_api_Item_api_ItemH ?_
  intro args hp s u hfit h
  unfold sp_slices_IndexFunc_api_Item_api_ItemH at h
  split at h
  · rename_i o_xs xs c_v o_v k_v
    obtain ⟨hvc, rfl, rfl⟩ := h.vc
    clear h hfit
    change List Item at xs
    conv => whnf
    repeat' (first
      | (refine And.intro ?_ ?_ <;> try conv => whnf)
      | (intro hh; first | (cases hh; done) | conv => whnf))
    all_goals try first | rfl | kernel_rfl
    all_goals try simp only [decide_eq_true_eq, decide_eq_false_iff_not] at *
    all_goals try simp only [Key_eta, Share_eta, Journey_eta, Batch_eta, FieldT_eta, OpB_eta, Product_eta, Item_eta, Delta_eta, Elem_eta, Rule_eta, Do10_eta, Ask_eta, Key_beq, Share_beq, Journey_beq, FieldT_beq, Product_beq, Item_beq, Do10_beq, Ask_beq, toNat0, toNat1, toNat2, toNat3, toNat4, toNat5, toNat6, toNat7, toNat8, toNat9, toNat10, toNat11, toNat12, toNat13, toNat14, toNat15, toNat16, toNat17, toNat18, toNat19, iA, iOf, atS, rwA, castK, zK, true_and, and_true, decide_eq_true_eq, decide_eq_false_iff_not, beq_iff_eq, bne_iff_ne, beq_eq_false_iff_ne, bne_eq_false_iff_eq, Bool.not_eq_true', Bool.not_eq_false', Bool.not_eq_true, Bool.not_eq_false, Nat.succ_eq_add_one, Int.not_lt, Int.not_le, gt_iff_lt, ge_iff_le, show bytesS T_slices_IndexFunc_api_Item_api_ItemH 22 = 40 from rfl] at *
    all_goals try (obtain ⟨j, hj, rfl, hb⟩ := ‹IAny _ _ _›)
    all_goals try (refine Vc.mk ?_; omega)
    · exact ⟨⟨0, Nat.zero_le _, rfl, rfl⟩⟩
    · refine Res.mk ?_
      rw [idxP_at (d := (⟨0, 0, 0, 0, 0⟩ : Item)) hb (by omega) ‹_›]; omega
    · refine ⟨⟨j + 1, by omega, by rw [wrap64] <;> omega, ?_⟩, by rw [wrap64] <;> omega⟩
      rw [take_getD (d := (⟨0, 0, 0, 0, 0⟩ : Item)) (by omega), any_snoc, hb, ‹hitI _ _ _ _ = false›]; rfl
    · refine Res.mk ?_
      rw [idxP_none]
      rw [← List.take_length (l := xs), show xs.length = j by omega]; exact hb
  · exact h.fail.elim

def T_slices_ContainsFunc_api_Item_api_ItemH : TT := [(3, ⟨.int .i64, 1, 8, [.int .i64 0], some .int⟩),
  (4, ⟨.bool, 1, 1, [.bool false], some .bool⟩),
  (22, ⟨.slice 52, 1, 24, [.slice none 0 0], none⟩),
  (52, ⟨.strct [(0, 3), (1, 3), (2, 3), (3, 3), (4, 3)], 5, 40, [.int .i64 0, .int .i64 0, .int .i64 0, .int .i64 0, .int .i64 0], some .item⟩),
  (147, ⟨.other, 1, 8, [.nilFunc], none⟩)]
theorem tOk_slices_ContainsFunc_api_Item_api_ItemH : TOk Try.prog T_slices_ContainsFunc_api_Item_api_ItemH := tOk_of (by kernel_rfl)
def sp_slices_ContainsFunc_api_Item_api_ItemH : Spec := fun args hp => match args, hp with
  | [.slF 0, .fn (.func 75) [] [.ptr 1 0, .ptr 2 0, .ptr 3 0]], [(0, .row o_xs .item xs), (1, .cells [.val (.int .i64 c_v)]), (2, .cells [.val (.int .i64 o_v)]), (3, .cells [.val (.int .i64 k_v)])] => .vc (xs.length ≤ 1099511627776) (bv (xs.any (hitI c_v o_v k_v))) []
  | _, _ => .fail "slices_ContainsFunc_api_Item_api_ItemH"
abbrev k_slices_ContainsFunc_api_Item_api_ItemH : List (Option RK) := [some .item, none]
def a_slices_ContainsFunc_api_Item_api_ItemH : List SV → List (Nat × VB) → Anns := fun _ _ => []
set_option maxHeartbeats 20000000 in
theorem ok_slices_ContainsFunc_api_Item_api_ItemH : GOk Try.prog 74 (lift k_slices_ContainsFunc_api_Item_api_ItemH sp_slices_ContainsFunc_api_Item_api_ItemH) := by
  refine pf_ok (T := T_slices_ContainsFunc_api_Item_api_ItemH) (Γ := (115, lift k_slices_IndexFunc_api_Item_api_ItemH sp_slices_IndexFunc_api_Item_api_ItemH) :: []) tOk_slices_ContainsFunc_api_Item_api_ItemH (gOks_cons ok_slices_IndexFunc_api_Item_api_ItemH (gOks_nil _)) mixed Try.func74 (c := body Try.f74) (by kernel_rfl) (by kernel_rfl) k_slices_ContainsFunc_api_Item_api_ItemH sp_slices_ContainsFunc_api_Item_api_ItemH (by kernel_rfl) (by kernel_rfl) a_slices_ContainsFunc_api_Item_api_ItemH ?_
  intro args hp s u hfit h
  unfold sp_slices_ContainsFunc_api_Item_api_ItemH at h
  split at h
  · rename_i o_xs xs c_v o_v k_v
    obtain ⟨hvc, rfl, rfl⟩ := h.vc
    clear h hfit
    change List Item at xs
    conv => whnf
    repeat' (first
      | (refine And.intro ?_ ?_ <;> try conv => whnf)
      | (intro hh; first | (cases hh; done) | conv => whnf))
    all_goals try first | rfl | kernel_rfl
    all_goals try simp only [decide_eq_true_eq, decide_eq_false_iff_not] at *
    all_goals try simp only [Key_eta, Share_eta, Journey_eta, Batch_eta, FieldT_eta, OpB_eta, Product_eta, Item_eta, Delta_eta, Elem_eta, Rule_eta, Do10_eta, Ask_eta, Key_beq, Share_beq, Journey_beq, FieldT_beq, Product_beq, Item_beq, Do10_beq, Ask_beq, toNat0, toNat1, toNat2, toNat3, toNat4, toNat5, toNat6, toNat7, toNat8, toNat9, toNat10, toNat11, toNat12, toNat13, toNat14, toNat15, toNat16, toNat17, toNat18, toNat19, iA, iOf, atS, rwA, castK, zK, true_and, and_true, decide_eq_true_eq, decide_eq_false_iff_not, beq_iff_eq, bne_iff_ne, beq_eq_false_iff_ne, bne_eq_false_iff_eq, Bool.not_eq_true', Bool.not_eq_false', Bool.not_eq_true, Bool.not_eq_false, Nat.succ_eq_add_one, Int.not_lt, Int.not_le, gt_iff_lt, ge_iff_le, show bytesS T_slices_ContainsFunc_api_Item_api_ItemH 22 = 40 from rfl] at *
    all_goals first | exact Vc.mk hvc | (refine Res.mk ?_; rw [idxP_any (by decide)])
  · exact h.fail.elim

def T_lists_Hot_Has : TT := [(3, ⟨.int .i64, 1, 8, [.int .i64 0], some .int⟩),
  (4, ⟨.bool, 1, 1, [.bool false], some .bool⟩),
  (22, ⟨.slice 52, 1, 24, [.slice none 0 0], none⟩),
  (42, ⟨.ptr, 1, 8, [.pointer none], none⟩),
  (44, ⟨.strct [(0, 3), (1, 22)], 2, 32, [.int .i64 0, .slice none 0 0], none⟩),
  (46, ⟨.strct [(0, 44)], 2, 32, [.int .i64 0, .slice none 0 0], none⟩),
  (52, ⟨.strct [(0, 3), (1, 3), (2, 3), (3, 3), (4, 3)], 5, 40, [.int .i64 0, .int .i64 0, .int .i64 0, .int .i64 0, .int .i64 0], some .item⟩),
  (147, ⟨.other, 1, 8, [.nilFunc], none⟩)]
theorem tOk_lists_Hot_Has : TOk Try.prog T_lists_Hot_Has := tOk_of (by kernel_rfl)
def sp_lists_Hot_Has : Spec := fun args hp => match args, hp with
  | [.ptr 0 0, .val (.int .i64 card), .val (.int .i64 owner), .val (.int .i64 id)], [(0, .cells [.val (.int .i64 h_version), .slF 1]), (1, .row true .item h_items)] => .vc (h_items.length ≤ 1099511627776) (bv (h_items.any (hitI card owner id))) []
  | _, _ => .fail "lists_Hot_Has"
abbrev k_lists_Hot_Has : List (Option RK) := [none, none, none, none]
def a_lists_Hot_Has : List SV → List (Nat × VB) → Anns := fun _ _ => []
set_option maxHeartbeats 20000000 in
theorem ok_lists_Hot_Has : GOk Try.prog 25 (lift k_lists_Hot_Has sp_lists_Hot_Has) := by
  refine pf_ok (T := T_lists_Hot_Has) (Γ := (74, lift k_slices_ContainsFunc_api_Item_api_ItemH sp_slices_ContainsFunc_api_Item_api_ItemH) :: []) tOk_lists_Hot_Has (gOks_cons ok_slices_ContainsFunc_api_Item_api_ItemH (gOks_nil _)) mixed Try.func25 (c := body Try.f25) (by kernel_rfl) (by kernel_rfl) k_lists_Hot_Has sp_lists_Hot_Has (by kernel_rfl) (by kernel_rfl) a_lists_Hot_Has ?_
  intro args hp s u hfit h
  unfold sp_lists_Hot_Has at h
  split at h
  · rename_i card owner id h_version h_items
    obtain ⟨hvc, rfl, rfl⟩ := h.vc
    clear h hfit
    conv => whnf
    repeat' (first
      | (refine And.intro ?_ ?_ <;> try conv => whnf)
      | (intro hh; first | (cases hh; done) | conv => whnf))
    all_goals try first | rfl | kernel_rfl
    all_goals try simp only [decide_eq_true_eq, decide_eq_false_iff_not] at *
    all_goals try simp only [Key_eta, Share_eta, Journey_eta, Batch_eta, FieldT_eta, OpB_eta, Product_eta, Item_eta, Delta_eta, Elem_eta, Rule_eta, Do10_eta, Ask_eta, Key_beq, Share_beq, Journey_beq, FieldT_beq, Product_beq, Item_beq, Do10_beq, Ask_beq, toNat0, toNat1, toNat2, toNat3, toNat4, toNat5, toNat6, toNat7, toNat8, toNat9, toNat10, toNat11, toNat12, toNat13, toNat14, toNat15, toNat16, toNat17, toNat18, toNat19, iA, iOf, atS, rwA, castK, zK, true_and, and_true, decide_eq_true_eq, decide_eq_false_iff_not, beq_iff_eq, bne_iff_ne, beq_eq_false_iff_ne, bne_eq_false_iff_eq, Bool.not_eq_true', Bool.not_eq_false', Bool.not_eq_true, Bool.not_eq_false, Nat.succ_eq_add_one, Int.not_lt, Int.not_le, gt_iff_lt, ge_iff_le, show bytesS T_lists_Hot_Has 22 = 40 from rfl] at *
    all_goals first | exact Vc.mk hvc | exact Res.mk trivial
  · exact h.fail.elim

def T_lists_list_Items : TT := [(3, ⟨.int .i64, 1, 8, [.int .i64 0], some .int⟩),
  (22, ⟨.slice 52, 1, 24, [.slice none 0 0], none⟩),
  (44, ⟨.strct [(0, 3), (1, 22)], 2, 32, [.int .i64 0, .slice none 0 0], none⟩),
  (52, ⟨.strct [(0, 3), (1, 3), (2, 3), (3, 3), (4, 3)], 5, 40, [.int .i64 0, .int .i64 0, .int .i64 0, .int .i64 0, .int .i64 0], some .item⟩),
  (145, ⟨.ptr, 1, 8, [.pointer none], none⟩)]
theorem tOk_lists_list_Items : TOk Try.prog T_lists_list_Items := tOk_of (by kernel_rfl)
def sp_lists_list_Items : Spec := fun args hp => match args, hp with
  | [.ptr 0 0], [(0, .cells [.val (.int .i64 l_version), .slF 1]), (1, .row true .item l_items)] => .vc (l_items.length ≤ 1099511627776) (.slF 2000) [(2000, some (.row true .item l_items))]
  | _, _ => .fail "lists_list_Items"
abbrev k_lists_list_Items : List (Option RK) := [none]
def a_lists_list_Items : List SV → List (Nat × VB) → Anns := fun _ _ => []
set_option maxHeartbeats 20000000 in
theorem ok_lists_list_Items : GOk Try.prog 23 (lift k_lists_list_Items sp_lists_list_Items) := by
  refine pf_ok (T := T_lists_list_Items) (Γ := (69, lift k_slices_Clone_api_Item_api_Item sp_slices_Clone_api_Item_api_Item) :: []) tOk_lists_list_Items (gOks_cons ok_slices_Clone_api_Item_api_Item (gOks_nil _)) mixed Try.func23 (c := body Try.f23) (by kernel_rfl) (by kernel_rfl) k_lists_list_Items sp_lists_list_Items (by kernel_rfl) (by kernel_rfl) a_lists_list_Items ?_
  intro args hp s u hfit h
  unfold sp_lists_list_Items at h
  split at h
  · rename_i l_version l_items
    obtain ⟨hvc, rfl, rfl⟩ := h.vc
    clear h hfit
    conv => whnf
    repeat' (first
      | (refine And.intro ?_ ?_ <;> try conv => whnf)
      | (intro hh; first | (cases hh; done) | conv => whnf))
    all_goals try first | rfl | kernel_rfl
    all_goals try simp only [decide_eq_true_eq, decide_eq_false_iff_not] at *
    all_goals try simp only [Key_eta, Share_eta, Journey_eta, Batch_eta, FieldT_eta, OpB_eta, Product_eta, Item_eta, Delta_eta, Elem_eta, Rule_eta, Do10_eta, Ask_eta, Key_beq, Share_beq, Journey_beq, FieldT_beq, Product_beq, Item_beq, Do10_beq, Ask_beq, toNat0, toNat1, toNat2, toNat3, toNat4, toNat5, toNat6, toNat7, toNat8, toNat9, toNat10, toNat11, toNat12, toNat13, toNat14, toNat15, toNat16, toNat17, toNat18, toNat19, iA, iOf, atS, rwA, castK, zK, true_and, and_true, decide_eq_true_eq, decide_eq_false_iff_not, beq_iff_eq, bne_iff_ne, beq_eq_false_iff_ne, bne_eq_false_iff_eq, Bool.not_eq_true', Bool.not_eq_false', Bool.not_eq_true, Bool.not_eq_false, Nat.succ_eq_add_one, Int.not_lt, Int.not_le, gt_iff_lt, ge_iff_le, show bytesS T_lists_list_Items 22 = 40 from rfl] at *
    all_goals first | exact Vc.mk hvc | exact Res.mk trivial
  · exact h.fail.elim

def T_lists_list_Version : TT := [(3, ⟨.int .i64, 1, 8, [.int .i64 0], some .int⟩),
  (22, ⟨.slice 52, 1, 24, [.slice none 0 0], none⟩),
  (44, ⟨.strct [(0, 3), (1, 22)], 2, 32, [.int .i64 0, .slice none 0 0], none⟩),
  (52, ⟨.strct [(0, 3), (1, 3), (2, 3), (3, 3), (4, 3)], 5, 40, [.int .i64 0, .int .i64 0, .int .i64 0, .int .i64 0, .int .i64 0], some .item⟩),
  (145, ⟨.ptr, 1, 8, [.pointer none], none⟩)]
theorem tOk_lists_list_Version : TOk Try.prog T_lists_list_Version := tOk_of (by kernel_rfl)
def sp_lists_list_Version : Spec := fun args hp => match args, hp with
  | [.ptr 0 0], [(0, .cells [.val (.int .i64 l_version), .slF 1]), (1, .row true .item l_items)] => .ok (iv l_version) []
  | _, _ => .fail "lists_list_Version"
abbrev k_lists_list_Version : List (Option RK) := [none]
def a_lists_list_Version : List SV → List (Nat × VB) → Anns := fun _ _ => []
set_option maxHeartbeats 20000000 in
theorem ok_lists_list_Version : GOk Try.prog 21 (lift k_lists_list_Version sp_lists_list_Version) := by
  refine pf_ok (T := T_lists_list_Version) (Γ := []) tOk_lists_list_Version (gOks_nil _) mixed Try.func21 (c := body Try.f21) (by kernel_rfl) (by kernel_rfl) k_lists_list_Version sp_lists_list_Version (by kernel_rfl) (by kernel_rfl) a_lists_list_Version ?_
  intro args hp s u hfit h
  unfold sp_lists_list_Version at h
  split at h
  · rename_i l_version l_items
    obtain ⟨rfl, rfl⟩ := h.ok
    clear h hfit
    conv => whnf
    repeat' (first
      | (refine And.intro ?_ ?_ <;> try conv => whnf)
      | (intro hh; first | (cases hh; done) | conv => whnf))
    all_goals try first | rfl | kernel_rfl
    all_goals try simp only [decide_eq_true_eq, decide_eq_false_iff_not] at *
    all_goals try simp only [Key_eta, Share_eta, Journey_eta, Batch_eta, FieldT_eta, OpB_eta, Product_eta, Item_eta, Delta_eta, Elem_eta, Rule_eta, Do10_eta, Ask_eta, Key_beq, Share_beq, Journey_beq, FieldT_beq, Product_beq, Item_beq, Do10_beq, Ask_beq, toNat0, toNat1, toNat2, toNat3, toNat4, toNat5, toNat6, toNat7, toNat8, toNat9, toNat10, toNat11, toNat12, toNat13, toNat14, toNat15, toNat16, toNat17, toNat18, toNat19, iA, iOf, atS, rwA, castK, zK, true_and, and_true, decide_eq_true_eq, decide_eq_false_iff_not, beq_iff_eq, bne_iff_ne, beq_eq_false_iff_ne, bne_eq_false_iff_eq, Bool.not_eq_true', Bool.not_eq_false', Bool.not_eq_true, Bool.not_eq_false, Nat.succ_eq_add_one, Int.not_lt, Int.not_le, gt_iff_lt, ge_iff_le, show bytesS T_lists_list_Version 22 = 40 from rfl] at *
    all_goals exact Res.mk trivial
  · exact h.fail.elim

end Go.Proofs.Ythbmllekbbfobaa.Sx
