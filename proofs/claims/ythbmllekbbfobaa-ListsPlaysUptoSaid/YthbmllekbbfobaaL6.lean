import Derived.Test.YthbmllekbbfobaaProg
import Derived.Test.YthbmllekbbfobaaSxU
import Derived.IntWalk
import Derived.Test.YthbmllekbbfobaaL6r
/-! lists, apply -/
namespace Go.Proofs.Ythbmllekbbfobaa.Sx
open Go
set_option linter.unusedVariables false
set_option linter.unusedSimpArgs false
set_option maxRecDepth 100000

def T_lists_list_apply : TT := [(3, ⟨.int .i64, 1, 8, [.int .i64 0], some .int⟩),
  (4, ⟨.bool, 1, 1, [.bool false], some .bool⟩),
  (22, ⟨.slice 52, 1, 24, [.slice none 0 0], none⟩),
  (24, ⟨.strct [(0, 3), (1, 22), (2, 22)], 3, 56, [.int .i64 0, .slice none 0 0, .slice none 0 0], some .delta⟩),
  (27, ⟨.int .i64, 1, 8, [.int .i64 0], some .int⟩),
  (44, ⟨.strct [(0, 3), (1, 22)], 2, 32, [.int .i64 0, .slice none 0 0], none⟩),
  (52, ⟨.strct [(0, 3), (1, 3), (2, 3), (3, 3), (4, 3)], 5, 40, [.int .i64 0, .int .i64 0, .int .i64 0, .int .i64 0, .int .i64 0], some .item⟩),
  (145, ⟨.ptr, 1, 8, [.pointer none], none⟩),
  (147, ⟨.other, 1, 8, [.nilFunc], none⟩),
  (192, ⟨.slice 22, 1, 24, [.slice none 0 0], none⟩)]
theorem tOk_lists_list_apply : TOk Try.prog T_lists_list_apply := tOk_of (by kernel_rfl)
def sp_lists_list_apply : Spec := fun args hp => match args, hp with
  | [.ptr 0 0, .agg [.val (.int .i64 d_to), .slF 1, .slF 2], .fn (.func 72) [] []], [(0, .cells [.val (.int .i64 l_version), .slF 3]), (1, .row o_d_add .item d_add), (2, .row o_d_off .item d_off), (3, .row true .item l_items)] => .vc (d_add.length ≤ 1048576 ∧ d_off.length ≤ 1048576 ∧ l_items.length ≤ 1048576 ∧ -9223372036854775808 ≤ l_version ∧ d_to ≤ 9223372036854775807) (iv (applyE false l_version l_items d_to d_add d_off)) [(0, some (.cells [iv (applyV false l_version l_items d_to d_add d_off), .slF 2000])), (3, none), (2000, some (.row true .item (applyL false l_version l_items d_to d_add d_off)))]
  | [.ptr 0 0, .agg [.val (.int .i64 d_to), .slF 1, .slF 2], .fn (.func 90) [] []], [(0, .cells [.val (.int .i64 l_version), .slF 3]), (1, .row o_d_add .item d_add), (2, .row o_d_off .item d_off), (3, .row true .item l_items)] => .vc (d_add.length ≤ 1048576 ∧ d_off.length ≤ 1048576 ∧ l_items.length ≤ 1048576 ∧ -9223372036854775808 ≤ l_version ∧ d_to ≤ 9223372036854775807) (iv (applyE true l_version l_items d_to d_add d_off)) [(0, some (.cells [iv (applyV true l_version l_items d_to d_add d_off), .slF 2000])), (3, none), (2000, some (.row true .item (applyL true l_version l_items d_to d_add d_off)))]
  | _, _ => .fail "lists_list_apply"
abbrev k_lists_list_apply : List (Option RK) := [none, none, none]
def a_lists_list_apply : List SV → List (Nat × VB) → Anns := fun args hp => match args, hp with
  | [.ptr 0 0, .agg [.val (.int .i64 d_to), .slF 1, .slF 2], .fn (.func 72) [] []], [(0, .cells [.val (.int .i64 l_version), .slF 3]), (1, .row o_d_add .item d_add), (2, .row o_d_off .item d_off), (3, .row true .item l_items)] => [(6, fun S => .inv [] [] [] fun ids vs rs => { cars := [.i 38 .i64], inv := fun ((i, _) : Int × Unit) => IAll (rightI false) (d_add ++ d_off) i, mu := fun ((i, _) : Int × Unit) => d_add.length + d_off.length - i.toNat }),
    (13, fun S => .inv [] [] [] fun ids vs rs => { cars := [.i 52 .i64, .r 9 true .item], inv := fun ((i, n, _) : Int × List Item × Unit) => IOff d_off l_items i n, mu := fun ((i, n, _) : Int × List Item × Unit) => l_items.length - i.toNat }),
    (19, fun S => .inv [] [] [] fun ids vs rs => { cars := [.i 69 .i64, .r 9 true .item], inv := fun ((i, n, _) : Int × List Item × Unit) => IAdd (offI d_off l_items) d_add i n, mu := fun ((i, n, _) : Int × List Item × Unit) => d_add.length - i.toNat })]
  | [.ptr 0 0, .agg [.val (.int .i64 d_to), .slF 1, .slF 2], .fn (.func 90) [] []], [(0, .cells [.val (.int .i64 l_version), .slF 3]), (1, .row o_d_add .item d_add), (2, .row o_d_off .item d_off), (3, .row true .item l_items)] => [(6, fun S => .inv [] [] [] fun ids vs rs => { cars := [.i 38 .i64], inv := fun ((i, _) : Int × Unit) => IAll (rightI true) (d_add ++ d_off) i, mu := fun ((i, _) : Int × Unit) => d_add.length + d_off.length - i.toNat }),
    (13, fun S => .inv [] [] [] fun ids vs rs => { cars := [.i 52 .i64, .r 9 true .item], inv := fun ((i, n, _) : Int × List Item × Unit) => IOff d_off l_items i n, mu := fun ((i, n, _) : Int × List Item × Unit) => l_items.length - i.toNat }),
    (19, fun S => .inv [] [] [] fun ids vs rs => { cars := [.i 69 .i64, .r 9 true .item], inv := fun ((i, n, _) : Int × List Item × Unit) => IAdd (offI d_off l_items) d_add i n, mu := fun ((i, n, _) : Int × List Item × Unit) => d_add.length - i.toNat })]
  | _, _ => []
set_option maxHeartbeats 20000000 in
theorem ok_lists_list_apply : GOk Try.prog 71 (lift k_lists_list_apply sp_lists_list_apply) := by
  refine pf_ok (T := T_lists_list_apply) (Γ := (57, lift k_slices_Concat_api_Item_api_Item sp_slices_Concat_api_Item_api_Item) :: (114, lift k_slices_Contains_api_Item_api_Item sp_slices_Contains_api_Item_api_Item) :: (72, lift k_lists_Hot_Apply_1 sp_lists_Hot_Apply_1) :: (90, lift k_lists_Act_Apply_1 sp_lists_Act_Apply_1) :: []) tOk_lists_list_apply (gOks_cons ok_slices_Concat_api_Item_api_Item (gOks_cons ok_slices_Contains_api_Item_api_Item (gOks_cons ok_lists_Hot_Apply_1 (gOks_cons ok_lists_Act_Apply_1 (gOks_nil _))))) mixed Try.func71 (c := body Try.f71) (by kernel_rfl) (by kernel_rfl) k_lists_list_apply sp_lists_list_apply (by kernel_rfl) (by kernel_rfl) a_lists_list_apply ?_
  intro args hp s u hfit h
  unfold sp_lists_list_apply at h
  split at h
  · rename_i d_to l_version o_d_add d_add o_d_off d_off l_items
    obtain ⟨hvc, rfl, rfl⟩ := h.vc
    clear h hfit
    conv => whnf
    repeat' (first
      | (refine And.intro ?_ ?_ <;> try conv => whnf)
      | (intro hh; first | (cases hh; done) | conv => whnf))
    all_goals try first | rfl | kernel_rfl
    all_goals try simp only [decide_eq_true_eq, decide_eq_false_iff_not] at *
    all_goals try simp only [Key_eta, Share_eta, Journey_eta, Batch_eta, FieldT_eta, OpB_eta, Product_eta, Item_eta, Delta_eta, Elem_eta, Rule_eta, Do10_eta, Ask_eta, Key_beq, Share_beq, Journey_beq, FieldT_beq, Product_beq, Item_beq, Do10_beq, Ask_beq, toNat0, toNat1, toNat2, toNat3, toNat4, toNat5, toNat6, toNat7, toNat8, toNat9, toNat10, toNat11, toNat12, toNat13, toNat14, toNat15, toNat16, toNat17, toNat18, toNat19, iA, iOf, atS, rwA, castK, zK, true_and, and_true, decide_eq_true_eq, decide_eq_false_iff_not, beq_iff_eq, bne_iff_ne, beq_eq_false_iff_ne, bne_eq_false_iff_eq, Bool.not_eq_true', Bool.not_eq_false', Bool.not_eq_true, Bool.not_eq_false, Nat.succ_eq_add_one, Int.not_lt, Int.not_le, gt_iff_lt, ge_iff_le, show bytesS T_lists_list_apply 22 = 40 from rfl, show bytesS T_lists_list_apply 192 = 24 from rfl] at *
    all_goals obtain ⟨hA, hO, hI, hv0, hto⟩ := hvc
    all_goals try (
      have hex := ‹IAll _ _ _›
      obtain ⟨j, hj, rfl, hb⟩ := hex
      rw [List.length_append] at hj)
    all_goals try (
      have e0 : (((0 : Nat) : Int) + (j : Int)).toNat = j := by omega
      simp only [e0] at *)
    all_goals try (
      have hex := ‹IOff _ _ _ _›
      obtain ⟨m, hm, rfl, rfl⟩ := hex
      have hml := offI_len d_off (l_items.take m)
      rw [List.length_take] at hml)
    all_goals try (
      have hex := ‹IAdd _ _ _ _›
      obtain ⟨q, hq, rfl, rfl⟩ := hex
      have hml2 := offI_len d_off l_items
      have hql := addI_len (d_add.take q) (offI d_off l_items)
      rw [List.length_take] at hql)
    all_goals try simp only [Int.toNat_natCast] at *
    all_goals try (refine Vc.mk ?_; first | omega | (rw [List.length_append]; omega) | (simp only [List.length_cons, List.length_nil]; omega))
    · exact Res.mk (by have : applyE false l_version l_items d_to d_add d_off = 31 := if_pos (by omega); simp [applyV, applyL, this])
    · have hne : d_to ≠ l_version + 1 := by rw [wrap64 (by omega) (by omega)] at *; omega
      have : applyE false l_version l_items d_to d_add d_off = 28 := by unfold applyE; rw [if_neg (by omega), if_pos hne]
      exact Res.mk (by simp [applyV, applyL, this])
    · exact ⟨⟨0, Nat.zero_le _, rfl, by simp⟩⟩
    · have hno := not_all (l := d_add ++ d_off) (p := rightI false) (d := (⟨0, 0, 0, 0, 0⟩ : Item)) (j := j) (by rw [List.length_append]; omega) ‹_›
      have hne : d_to = l_version + 1 := by rw [wrap64 (by omega) (by omega)] at *; omega
      have : applyE false l_version l_items d_to d_add d_off = 2 := by unfold applyE; rw [if_neg (by omega), if_neg (by omega), if_pos hno]
      exact Res.mk (by simp [applyV, applyL, this])
    · refine ⟨⟨j + 1, by rw [List.length_append]; omega, by rw [wrap64] <;> omega, ?_⟩, by rw [wrap64] <;> omega⟩
      rw [take_getD (d := (⟨0, 0, 0, 0, 0⟩ : Item)) (by rw [List.length_append]; omega), all_snoc, hb, Bool.true_and]
      show hotI _ = true
      assumption
    · exact ⟨⟨0, Nat.zero_le _, rfl, rfl⟩⟩
    · refine ⟨⟨m + 1, by omega, by rw [wrap64] <;> omega, ?_⟩, by rw [wrap64] <;> omega⟩
      rw [take_getD (d := (⟨0, 0, 0, 0, 0⟩ : Item)) (by omega), offI_snoc, if_neg (of_decide_eq_false ‹_›)]
    · refine ⟨⟨m + 1, by omega, by rw [wrap64] <;> omega, ?_⟩, by rw [wrap64] <;> omega⟩
      rw [take_getD (d := (⟨0, 0, 0, 0, 0⟩ : Item)) (by omega), offI_snoc, if_pos (of_decide_eq_true ‹_›)]
    · obtain rfl : m = l_items.length := by omega
      rw [List.take_length]
      exact ⟨⟨0, Nat.zero_le _, rfl, rfl⟩⟩
    · refine ⟨⟨q + 1, by omega, by rw [wrap64] <;> omega, ?_⟩, by rw [wrap64] <;> omega⟩
      rw [take_getD (d := (⟨0, 0, 0, 0, 0⟩ : Item)) (by omega), addI_snoc, if_neg (of_decide_eq_false ‹_›)]
    · refine ⟨⟨q + 1, by omega, by rw [wrap64] <;> omega, ?_⟩, by rw [wrap64] <;> omega⟩
      rw [take_getD (d := (⟨0, 0, 0, 0, 0⟩ : Item)) (by omega), addI_snoc, if_pos (of_decide_eq_true ‹_›)]
    all_goals (
      obtain rfl : q = d_add.length := by omega
      obtain rfl : j = d_add.length + d_off.length := by omega
      rw [← List.length_append, List.take_length] at hb
      rw [List.take_length] at *
      have hne : d_to = l_version + 1 := by rw [wrap64 (by omega) (by omega)] at *; omega)
    · have : applyE false l_version l_items d_to d_add d_off = 20 := by unfold applyE; rw [if_neg (by omega), if_neg (by omega), if_neg (by rw [hb]; simp), if_pos (by unfold nextI; omega)]
      exact Res.mk (by simp [applyV, applyL, this])
    · have : applyE false l_version l_items d_to d_add d_off = 0 := by unfold applyE; rw [if_neg (by omega), if_neg (by omega), if_neg (by rw [hb]; simp), if_neg (by unfold nextI; omega)]
      exact Res.mk (by simp [applyV, applyL, this, nextI])
  · rename_i d_to l_version o_d_add d_add o_d_off d_off l_items
    obtain ⟨hvc, rfl, rfl⟩ := h.vc
    clear h hfit
    conv => whnf
    repeat' (first
      | (refine And.intro ?_ ?_ <;> try conv => whnf)
      | (intro hh; first | (cases hh; done) | conv => whnf))
    all_goals try first | rfl | kernel_rfl
    all_goals try simp only [decide_eq_true_eq, decide_eq_false_iff_not] at *
    all_goals try simp only [Key_eta, Share_eta, Journey_eta, Batch_eta, FieldT_eta, OpB_eta, Product_eta, Item_eta, Delta_eta, Elem_eta, Rule_eta, Do10_eta, Ask_eta, Key_beq, Share_beq, Journey_beq, FieldT_beq, Product_beq, Item_beq, Do10_beq, Ask_beq, toNat0, toNat1, toNat2, toNat3, toNat4, toNat5, toNat6, toNat7, toNat8, toNat9, toNat10, toNat11, toNat12, toNat13, toNat14, toNat15, toNat16, toNat17, toNat18, toNat19, iA, iOf, atS, rwA, castK, zK, true_and, and_true, decide_eq_true_eq, decide_eq_false_iff_not, beq_iff_eq, bne_iff_ne, beq_eq_false_iff_ne, bne_eq_false_iff_eq, Bool.not_eq_true', Bool.not_eq_false', Bool.not_eq_true, Bool.not_eq_false, Nat.succ_eq_add_one, Int.not_lt, Int.not_le, gt_iff_lt, ge_iff_le, show bytesS T_lists_list_apply 22 = 40 from rfl, show bytesS T_lists_list_apply 192 = 24 from rfl] at *
    all_goals obtain ⟨hA, hO, hI, hv0, hto⟩ := hvc
    all_goals try (
      have hex := ‹IAll _ _ _›
      obtain ⟨j, hj, rfl, hb⟩ := hex
      rw [List.length_append] at hj)
    all_goals try (
      have e0 : (((0 : Nat) : Int) + (j : Int)).toNat = j := by omega
      simp only [e0] at *)
    all_goals try (
      have hex := ‹IOff _ _ _ _›
      obtain ⟨m, hm, rfl, rfl⟩ := hex
      have hml := offI_len d_off (l_items.take m)
      rw [List.length_take] at hml)
    all_goals try (
      have hex := ‹IAdd _ _ _ _›
      obtain ⟨q, hq, rfl, rfl⟩ := hex
      have hml2 := offI_len d_off l_items
      have hql := addI_len (d_add.take q) (offI d_off l_items)
      rw [List.length_take] at hql)
    all_goals try simp only [Int.toNat_natCast] at *
    all_goals try (refine Vc.mk ?_; first | omega | (rw [List.length_append]; omega) | (simp only [List.length_cons, List.length_nil]; omega))
    · exact Res.mk (by have : applyE true l_version l_items d_to d_add d_off = 31 := if_pos (by omega); simp [applyV, applyL, this])
    · have hne : d_to ≠ l_version + 1 := by rw [wrap64 (by omega) (by omega)] at *; omega
      have : applyE true l_version l_items d_to d_add d_off = 28 := by unfold applyE; rw [if_neg (by omega), if_pos hne]
      exact Res.mk (by simp [applyV, applyL, this])
    · exact ⟨⟨0, Nat.zero_le _, rfl, by simp⟩⟩
    · have hno := not_all (l := d_add ++ d_off) (p := rightI true) (d := (⟨0, 0, 0, 0, 0⟩ : Item)) (j := j) (by rw [List.length_append]; omega) ‹_›
      have hne : d_to = l_version + 1 := by rw [wrap64 (by omega) (by omega)] at *; omega
      have : applyE true l_version l_items d_to d_add d_off = 2 := by unfold applyE; rw [if_neg (by omega), if_neg (by omega), if_pos hno]
      exact Res.mk (by simp [applyV, applyL, this])
    · refine ⟨⟨j + 1, by rw [List.length_append]; omega, by rw [wrap64] <;> omega, ?_⟩, by rw [wrap64] <;> omega⟩
      rw [take_getD (d := (⟨0, 0, 0, 0, 0⟩ : Item)) (by rw [List.length_append]; omega), all_snoc, hb, Bool.true_and]
      show actI _ = true
      assumption
    · exact ⟨⟨0, Nat.zero_le _, rfl, rfl⟩⟩
    · refine ⟨⟨m + 1, by omega, by rw [wrap64] <;> omega, ?_⟩, by rw [wrap64] <;> omega⟩
      rw [take_getD (d := (⟨0, 0, 0, 0, 0⟩ : Item)) (by omega), offI_snoc, if_neg (of_decide_eq_false ‹_›)]
    · refine ⟨⟨m + 1, by omega, by rw [wrap64] <;> omega, ?_⟩, by rw [wrap64] <;> omega⟩
      rw [take_getD (d := (⟨0, 0, 0, 0, 0⟩ : Item)) (by omega), offI_snoc, if_pos (of_decide_eq_true ‹_›)]
    · obtain rfl : m = l_items.length := by omega
      rw [List.take_length]
      exact ⟨⟨0, Nat.zero_le _, rfl, rfl⟩⟩
    · refine ⟨⟨q + 1, by omega, by rw [wrap64] <;> omega, ?_⟩, by rw [wrap64] <;> omega⟩
      rw [take_getD (d := (⟨0, 0, 0, 0, 0⟩ : Item)) (by omega), addI_snoc, if_neg (of_decide_eq_false ‹_›)]
    · refine ⟨⟨q + 1, by omega, by rw [wrap64] <;> omega, ?_⟩, by rw [wrap64] <;> omega⟩
      rw [take_getD (d := (⟨0, 0, 0, 0, 0⟩ : Item)) (by omega), addI_snoc, if_pos (of_decide_eq_true ‹_›)]
    all_goals (
      obtain rfl : q = d_add.length := by omega
      obtain rfl : j = d_add.length + d_off.length := by omega
      rw [← List.length_append, List.take_length] at hb
      rw [List.take_length] at *
      have hne : d_to = l_version + 1 := by rw [wrap64 (by omega) (by omega)] at *; omega)
    · have : applyE true l_version l_items d_to d_add d_off = 20 := by unfold applyE; rw [if_neg (by omega), if_neg (by omega), if_neg (by rw [hb]; simp), if_pos (by unfold nextI; omega)]
      exact Res.mk (by simp [applyV, applyL, this])
    · have : applyE true l_version l_items d_to d_add d_off = 0 := by unfold applyE; rw [if_neg (by omega), if_neg (by omega), if_neg (by rw [hb]; simp), if_neg (by unfold nextI; omega)]
      exact Res.mk (by simp [applyV, applyL, this, nextI])
  · exact h.fail.elim

def T_lists_Hot_Apply : TT := [(3, ⟨.int .i64, 1, 8, [.int .i64 0], some .int⟩),
  (22, ⟨.slice 52, 1, 24, [.slice none 0 0], none⟩),
  (24, ⟨.strct [(0, 3), (1, 22), (2, 22)], 3, 56, [.int .i64 0, .slice none 0 0, .slice none 0 0], some .delta⟩),
  (27, ⟨.int .i64, 1, 8, [.int .i64 0], some .int⟩),
  (42, ⟨.ptr, 1, 8, [.pointer none], none⟩),
  (44, ⟨.strct [(0, 3), (1, 22)], 2, 32, [.int .i64 0, .slice none 0 0], none⟩),
  (46, ⟨.strct [(0, 44)], 2, 32, [.int .i64 0, .slice none 0 0], none⟩),
  (52, ⟨.strct [(0, 3), (1, 3), (2, 3), (3, 3), (4, 3)], 5, 40, [.int .i64 0, .int .i64 0, .int .i64 0, .int .i64 0, .int .i64 0], some .item⟩),
  (147, ⟨.other, 1, 8, [.nilFunc], none⟩)]
theorem tOk_lists_Hot_Apply : TOk Try.prog T_lists_Hot_Apply := tOk_of (by kernel_rfl)
def sp_lists_Hot_Apply : Spec := fun args hp => match args, hp with
  | [.ptr 0 0, .agg [.val (.int .i64 d_to), .slF 1, .slF 2]], [(0, .cells [.val (.int .i64 l_version), .slF 3]), (1, .row o_d_add .item d_add), (2, .row o_d_off .item d_off), (3, .row true .item l_items)] => .vc (d_add.length ≤ 1048576 ∧ d_off.length ≤ 1048576 ∧ l_items.length ≤ 1048576 ∧ -9223372036854775808 ≤ l_version ∧ d_to ≤ 9223372036854775807) (iv (applyE false l_version l_items d_to d_add d_off)) [(0, some (.cells [iv (applyV false l_version l_items d_to d_add d_off), .slF 2000])), (3, none), (2000, some (.row true .item (applyL false l_version l_items d_to d_add d_off)))]
  | _, _ => .fail "lists_Hot_Apply"
abbrev k_lists_Hot_Apply : List (Option RK) := [none, none]
def a_lists_Hot_Apply : List SV → List (Nat × VB) → Anns := fun _ _ => []
set_option maxHeartbeats 20000000 in
theorem ok_lists_Hot_Apply : GOk Try.prog 22 (lift k_lists_Hot_Apply sp_lists_Hot_Apply) := by
  refine pf_ok (T := T_lists_Hot_Apply) (Γ := (71, lift k_lists_list_apply sp_lists_list_apply) :: []) tOk_lists_Hot_Apply (gOks_cons ok_lists_list_apply (gOks_nil _)) mixed Try.func22 (c := body Try.f22) (by kernel_rfl) (by kernel_rfl) k_lists_Hot_Apply sp_lists_Hot_Apply (by kernel_rfl) (by kernel_rfl) a_lists_Hot_Apply ?_
  intro args hp s u hfit h
  unfold sp_lists_Hot_Apply at h
  split at h
  · rename_i d_to l_version o_d_add d_add o_d_off d_off l_items
    obtain ⟨hvc, rfl, rfl⟩ := h.vc
    clear h hfit
    conv => whnf
    repeat' (first
      | (refine And.intro ?_ ?_ <;> try conv => whnf)
      | (intro hh; first | (cases hh; done) | conv => whnf))
    all_goals try first | rfl | kernel_rfl
    all_goals try simp only [decide_eq_true_eq, decide_eq_false_iff_not] at *
    all_goals try simp only [Key_eta, Share_eta, Journey_eta, Batch_eta, FieldT_eta, OpB_eta, Product_eta, Item_eta, Delta_eta, Elem_eta, Rule_eta, Do10_eta, Ask_eta, Key_beq, Share_beq, Journey_beq, FieldT_beq, Product_beq, Item_beq, Do10_beq, Ask_beq, toNat0, toNat1, toNat2, toNat3, toNat4, toNat5, toNat6, toNat7, toNat8, toNat9, toNat10, toNat11, toNat12, toNat13, toNat14, toNat15, toNat16, toNat17, toNat18, toNat19, iA, iOf, atS, rwA, castK, zK, true_and, and_true, decide_eq_true_eq, decide_eq_false_iff_not, beq_iff_eq, bne_iff_ne, beq_eq_false_iff_ne, bne_eq_false_iff_eq, Bool.not_eq_true', Bool.not_eq_false', Bool.not_eq_true, Bool.not_eq_false, Nat.succ_eq_add_one, Int.not_lt, Int.not_le, gt_iff_lt, ge_iff_le, show bytesS T_lists_Hot_Apply 22 = 40 from rfl] at *
    all_goals first | exact Vc.mk hvc | exact Res.mk ⟨trivial, trivial⟩ | exact Res.mk trivial
  · exact h.fail.elim

def T_lists_Act_Apply : TT := [(3, ⟨.int .i64, 1, 8, [.int .i64 0], some .int⟩),
  (22, ⟨.slice 52, 1, 24, [.slice none 0 0], none⟩),
  (24, ⟨.strct [(0, 3), (1, 22), (2, 22)], 3, 56, [.int .i64 0, .slice none 0 0, .slice none 0 0], some .delta⟩),
  (27, ⟨.int .i64, 1, 8, [.int .i64 0], some .int⟩),
  (44, ⟨.strct [(0, 3), (1, 22)], 2, 32, [.int .i64 0, .slice none 0 0], none⟩),
  (52, ⟨.strct [(0, 3), (1, 3), (2, 3), (3, 3), (4, 3)], 5, 40, [.int .i64 0, .int .i64 0, .int .i64 0, .int .i64 0, .int .i64 0], some .item⟩),
  (73, ⟨.ptr, 1, 8, [.pointer none], none⟩),
  (74, ⟨.strct [(0, 44)], 2, 32, [.int .i64 0, .slice none 0 0], none⟩),
  (147, ⟨.other, 1, 8, [.nilFunc], none⟩)]
theorem tOk_lists_Act_Apply : TOk Try.prog T_lists_Act_Apply := tOk_of (by kernel_rfl)
def sp_lists_Act_Apply : Spec := fun args hp => match args, hp with
  | [.ptr 0 0, .agg [.val (.int .i64 d_to), .slF 1, .slF 2]], [(0, .cells [.val (.int .i64 l_version), .slF 3]), (1, .row o_d_add .item d_add), (2, .row o_d_off .item d_off), (3, .row true .item l_items)] => .vc (d_add.length ≤ 1048576 ∧ d_off.length ≤ 1048576 ∧ l_items.length ≤ 1048576 ∧ -9223372036854775808 ≤ l_version ∧ d_to ≤ 9223372036854775807) (iv (applyE true l_version l_items d_to d_add d_off)) [(0, some (.cells [iv (applyV true l_version l_items d_to d_add d_off), .slF 2000])), (3, none), (2000, some (.row true .item (applyL true l_version l_items d_to d_add d_off)))]
  | _, _ => .fail "lists_Act_Apply"
abbrev k_lists_Act_Apply : List (Option RK) := [none, none]
def a_lists_Act_Apply : List SV → List (Nat × VB) → Anns := fun _ _ => []
set_option maxHeartbeats 20000000 in
theorem ok_lists_Act_Apply : GOk Try.prog 35 (lift k_lists_Act_Apply sp_lists_Act_Apply) := by
  refine pf_ok (T := T_lists_Act_Apply) (Γ := (71, lift k_lists_list_apply sp_lists_list_apply) :: []) tOk_lists_Act_Apply (gOks_cons ok_lists_list_apply (gOks_nil _)) mixed Try.func35 (c := body Try.f35) (by kernel_rfl) (by kernel_rfl) k_lists_Act_Apply sp_lists_Act_Apply (by kernel_rfl) (by kernel_rfl) a_lists_Act_Apply ?_
  intro args hp s u hfit h
  unfold sp_lists_Act_Apply at h
  split at h
  · rename_i d_to l_version o_d_add d_add o_d_off d_off l_items
    obtain ⟨hvc, rfl, rfl⟩ := h.vc
    clear h hfit
    conv => whnf
    repeat' (first
      | (refine And.intro ?_ ?_ <;> try conv => whnf)
      | (intro hh; first | (cases hh; done) | conv => whnf))
    all_goals try first | rfl | kernel_rfl
    all_goals try simp only [decide_eq_true_eq, decide_eq_false_iff_not] at *
    all_goals try simp only [Key_eta, Share_eta, Journey_eta, Batch_eta, FieldT_eta, OpB_eta, Product_eta, Item_eta, Delta_eta, Elem_eta, Rule_eta, Do10_eta, Ask_eta, Key_beq, Share_beq, Journey_beq, FieldT_beq, Product_beq, Item_beq, Do10_beq, Ask_beq, toNat0, toNat1, toNat2, toNat3, toNat4, toNat5, toNat6, toNat7, toNat8, toNat9, toNat10, toNat11, toNat12, toNat13, toNat14, toNat15, toNat16, toNat17, toNat18, toNat19, iA, iOf, atS, rwA, castK, zK, true_and, and_true, decide_eq_true_eq, decide_eq_false_iff_not, beq_iff_eq, bne_iff_ne, beq_eq_false_iff_ne, bne_eq_false_iff_eq, Bool.not_eq_true', Bool.not_eq_false', Bool.not_eq_true, Bool.not_eq_false, Nat.succ_eq_add_one, Int.not_lt, Int.not_le, gt_iff_lt, ge_iff_le, show bytesS T_lists_Act_Apply 22 = 40 from rfl] at *
    all_goals first | exact Vc.mk hvc | exact Res.mk ⟨trivial, trivial⟩ | exact Res.mk trivial
  · exact h.fail.elim

def T_fareboxref12_In : TT := [(3, ⟨.int .i64, 1, 8, [.int .i64 0], some .int⟩),
  (4, ⟨.bool, 1, 1, [.bool false], some .bool⟩),
  (22, ⟨.slice 52, 1, 24, [.slice none 0 0], none⟩),
  (52, ⟨.strct [(0, 3), (1, 3), (2, 3), (3, 3), (4, 3)], 5, 40, [.int .i64 0, .int .i64 0, .int .i64 0, .int .i64 0, .int .i64 0], some .item⟩)]
theorem tOk_fareboxref12_In : TOk Try.prog T_fareboxref12_In := tOk_of (by kernel_rfl)
def sp_fareboxref12_In : Spec := fun args hp => match args, hp with
  | [.slF 0, .agg x_cs], [(0, .row o_xs .item xs)] => (match decS .item x_cs with
    | some x => .vc (xs.length ≤ 1099511627776) (bv (decide (x ∈ xs))) []
    | none => .fail "struct")
  | _, _ => .fail "fareboxref12_In"
abbrev k_fareboxref12_In : List (Option RK) := [some .item, none]
def a_fareboxref12_In : List SV → List (Nat × VB) → Anns := fun args hp => match args, hp with
  | [.slF 0, .agg x_cs], [(0, .row o_xs .item xs)] => (match decS .item x_cs with
    | some x => [(2, fun S => .inv [] [] [] fun ids vs rs => { cars := [.i 5 .i64], inv := fun ((i, _) : Int × Unit) => IAny (eqI x) xs i, mu := fun ((i, _) : Int × Unit) => xs.length - i.toNat })]
    | none => [])
  | _, _ => []
set_option maxHeartbeats 20000000 in
theorem ok_fareboxref12_In : GOk Try.prog 24 (lift k_fareboxref12_In sp_fareboxref12_In) := by
  refine pf_ok (T := T_fareboxref12_In) (Γ := []) tOk_fareboxref12_In (gOks_nil _) mixed Try.func24 (c := body Try.f24) (by kernel_rfl) (by kernel_rfl) k_fareboxref12_In sp_fareboxref12_In (by kernel_rfl) (by kernel_rfl) a_fareboxref12_In ?_
  intro args hp s u hfit h
  unfold sp_fareboxref12_In at h
  split at h
  · rename_i x_cs o_xs xs
    split at h
    case h_2 => exact h.fail.elim
    rename_i x h_x
    obtain rfl := decS_ok (k := .item) rfl h_x
    clear h_x
    change Item at x
    obtain ⟨hvc, rfl, rfl⟩ := h.vc
    clear h hfit
    change List Item at xs
    conv => whnf
    repeat' (first
      | (refine And.intro ?_ ?_ <;> try conv => whnf)
      | (intro hh; first | (cases hh; done) | conv => whnf))
    all_goals try first | rfl | kernel_rfl
    all_goals try simp only [decide_eq_true_eq, decide_eq_false_iff_not] at *
    all_goals try simp only [Key_eta, Share_eta, Journey_eta, Batch_eta, FieldT_eta, OpB_eta, Product_eta, Item_eta, Delta_eta, Elem_eta, Rule_eta, Do10_eta, Ask_eta, Key_beq, Share_beq, Journey_beq, FieldT_beq, Product_beq, Item_beq, Do10_beq, Ask_beq, toNat0, toNat1, toNat2, toNat3, toNat4, toNat5, toNat6, toNat7, toNat8, toNat9, toNat10, toNat11, toNat12, toNat13, toNat14, toNat15, toNat16, toNat17, toNat18, toNat19, iA, iOf, atS, rwA, castK, zK, true_and, and_true, decide_eq_true_eq, decide_eq_false_iff_not, beq_iff_eq, bne_iff_ne, beq_eq_false_iff_ne, bne_eq_false_iff_eq, Bool.not_eq_true', Bool.not_eq_false', Bool.not_eq_true, Bool.not_eq_false, Nat.succ_eq_add_one, Int.not_lt, Int.not_le, gt_iff_lt, ge_iff_le, show bytesS T_fareboxref12_In 22 = 40 from rfl] at *
    all_goals try (
      have hex := ‹IAny _ _ _›
      obtain ⟨j, hj, rfl, hb⟩ := hex
      (try simp only [Int.toNat_natCast] at *))
    all_goals try (refine Vc.mk ?_; omega)
    · exact ⟨⟨0, Nat.zero_le _, rfl, rfl⟩⟩
    · refine Res.mk ?_
      rw [← any_eqI]
      exact (any_getD (j := j) (d := (⟨0, 0, 0, 0, 0⟩ : Item)) (by omega) (decide_eq_true (Eq.symm ‹_›))).symm
    · refine ⟨⟨j + 1, by omega, by rw [wrap64] <;> omega, ?_⟩, by rw [wrap64] <;> omega⟩
      rw [take_getD (d := (⟨0, 0, 0, 0, 0⟩ : Item)) (by omega), any_snoc, hb]
      exact decide_eq_false (Ne.symm ‹_›)
    · refine Res.mk ?_
      rw [← any_eqI, ← hb, show j = xs.length by omega, List.take_length]
  · exact h.fail.elim

def T_fareboxref12_Right : TT := [(3, ⟨.int .i64, 1, 8, [.int .i64 0], some .int⟩),
  (4, ⟨.bool, 1, 1, [.bool false], some .bool⟩),
  (52, ⟨.strct [(0, 3), (1, 3), (2, 3), (3, 3), (4, 3)], 5, 40, [.int .i64 0, .int .i64 0, .int .i64 0, .int .i64 0, .int .i64 0], some .item⟩)]
theorem tOk_fareboxref12_Right : TOk Try.prog T_fareboxref12_Right := tOk_of (by kernel_rfl)
def sp_fareboxref12_Right : Spec := fun args hp => match args, hp with
  | [.agg x_cs, .val (.bool act)], [] => (match decS .item x_cs with
    | some x => .ok (bv (rightI act x)) []
    | none => .fail "struct")
  | _, _ => .fail "fareboxref12_Right"
abbrev k_fareboxref12_Right : List (Option RK) := [none, none]
def a_fareboxref12_Right : List SV → List (Nat × VB) → Anns := fun _ _ => []
set_option maxHeartbeats 20000000 in
theorem ok_fareboxref12_Right : GOk Try.prog 97 (lift k_fareboxref12_Right sp_fareboxref12_Right) := by
  refine pf_ok (T := T_fareboxref12_Right) (Γ := []) tOk_fareboxref12_Right (gOks_nil _) mixed Try.func97 (c := body Try.f97) (by kernel_rfl) (by kernel_rfl) k_fareboxref12_Right sp_fareboxref12_Right (by kernel_rfl) (by kernel_rfl) a_fareboxref12_Right ?_
  intro args hp s u hfit h
  unfold sp_fareboxref12_Right at h
  split at h
  · rename_i x_cs act
    split at h
    case h_2 => exact h.fail.elim
    rename_i x h_x
    obtain rfl := decS_ok (k := .item) rfl h_x
    clear h_x
    change Item at x
    obtain ⟨rfl, rfl⟩ := h.ok
    clear h hfit
    conv => whnf
    repeat' (first
      | (refine And.intro ?_ ?_ <;> try conv => whnf)
      | (intro hh; first | (cases hh; done) | conv => whnf))
    all_goals try first | rfl | kernel_rfl
    all_goals try simp only [decide_eq_true_eq, decide_eq_false_iff_not] at *
    all_goals try simp only [Key_eta, Share_eta, Journey_eta, Batch_eta, FieldT_eta, OpB_eta, Product_eta, Item_eta, Delta_eta, Elem_eta, Rule_eta, Do10_eta, Ask_eta, Key_beq, Share_beq, Journey_beq, FieldT_beq, Product_beq, Item_beq, Do10_beq, Ask_beq, toNat0, toNat1, toNat2, toNat3, toNat4, toNat5, toNat6, toNat7, toNat8, toNat9, toNat10, toNat11, toNat12, toNat13, toNat14, toNat15, toNat16, toNat17, toNat18, toNat19, iA, iOf, atS, rwA, castK, zK, true_and, and_true, decide_eq_true_eq, decide_eq_false_iff_not, beq_iff_eq, bne_iff_ne, beq_eq_false_iff_ne, bne_eq_false_iff_eq, Bool.not_eq_true', Bool.not_eq_false', Bool.not_eq_true, Bool.not_eq_false, Nat.succ_eq_add_one, Int.not_lt, Int.not_le, gt_iff_lt, ge_iff_le] at *
    all_goals (
      refine Res.mk ?_
      rw [Bool.eq_iff_iff]
      cases act <;> simp_all [rightI, hotI, actI, namedI, beqInt] <;> omega)
  · exact h.fail.elim

def T_fareboxref12_Same : TT := [(3, ⟨.int .i64, 1, 8, [.int .i64 0], some .int⟩),
  (4, ⟨.bool, 1, 1, [.bool false], some .bool⟩),
  (22, ⟨.slice 52, 1, 24, [.slice none 0 0], none⟩),
  (52, ⟨.strct [(0, 3), (1, 3), (2, 3), (3, 3), (4, 3)], 5, 40, [.int .i64 0, .int .i64 0, .int .i64 0, .int .i64 0, .int .i64 0], some .item⟩)]
theorem tOk_fareboxref12_Same : TOk Try.prog T_fareboxref12_Same := tOk_of (by kernel_rfl)
def sp_fareboxref12_Same : Spec := fun args hp => match args, hp with
  | [.slF 0, .slF 1], [(0, .row o_a .item a), (1, .row o_b .item b)] => .vc (a.length ≤ 1099511627776 ∧ b.length ≤ 1099511627776) (bv (decide (a = b))) []
  | _, _ => .fail "fareboxref12_Same"
abbrev k_fareboxref12_Same : List (Option RK) := [some .item, some .item]
def a_fareboxref12_Same : List SV → List (Nat × VB) → Anns := fun args hp => match args, hp with
  | [.slF 0, .slF 1], [(0, .row o_a .item a), (1, .row o_b .item b)] => [(4, fun S => .inv [] [] [] fun ids vs rs => { cars := [.i 5 .i64], inv := fun ((i, _) : Int × Unit) => ISameI a b i, mu := fun ((i, _) : Int × Unit) => a.length - i.toNat })]
  | _, _ => []
set_option maxHeartbeats 20000000 in
theorem ok_fareboxref12_Same : GOk Try.prog 19 (lift k_fareboxref12_Same sp_fareboxref12_Same) := by
  refine pf_ok (T := T_fareboxref12_Same) (Γ := []) tOk_fareboxref12_Same (gOks_nil _) mixed Try.func19 (c := body Try.f19) (by kernel_rfl) (by kernel_rfl) k_fareboxref12_Same sp_fareboxref12_Same (by kernel_rfl) (by kernel_rfl) a_fareboxref12_Same ?_
  intro args hp s u hfit h
  unfold sp_fareboxref12_Same at h
  split at h
  · rename_i o_a a o_b b
    obtain ⟨hvc, rfl, rfl⟩ := h.vc
    clear h hfit
    change List Item at a
    change List Item at b
    conv => whnf
    repeat' (first
      | (refine And.intro ?_ ?_ <;> try conv => whnf)
      | (intro hh; first | (cases hh; done) | conv => whnf))
    all_goals try first | rfl | kernel_rfl
    all_goals try simp only [decide_eq_true_eq, decide_eq_false_iff_not] at *
    all_goals try simp only [Key_eta, Share_eta, Journey_eta, Batch_eta, FieldT_eta, OpB_eta, Product_eta, Item_eta, Delta_eta, Elem_eta, Rule_eta, Do10_eta, Ask_eta, Key_beq, Share_beq, Journey_beq, FieldT_beq, Product_beq, Item_beq, Do10_beq, Ask_beq, toNat0, toNat1, toNat2, toNat3, toNat4, toNat5, toNat6, toNat7, toNat8, toNat9, toNat10, toNat11, toNat12, toNat13, toNat14, toNat15, toNat16, toNat17, toNat18, toNat19, iA, iOf, atS, rwA, castK, zK, true_and, and_true, decide_eq_true_eq, decide_eq_false_iff_not, beq_iff_eq, bne_iff_ne, beq_eq_false_iff_ne, bne_eq_false_iff_eq, Bool.not_eq_true', Bool.not_eq_false', Bool.not_eq_true, Bool.not_eq_false, Nat.succ_eq_add_one, Int.not_lt, Int.not_le, gt_iff_lt, ge_iff_le, show bytesS T_fareboxref12_Same 22 = 40 from rfl] at *
    all_goals obtain ⟨hL, hL'⟩ := hvc
    all_goals try (
      obtain ⟨j, hj, rfl, hs⟩ := ‹ISameI _ _ _›
      (try simp only [Int.toNat_natCast] at *))
    all_goals try (refine Vc.mk ?_; omega)
    · exact Res.mk (by rw [eq_comm, decide_eq_false_iff_not]; intro h; subst h; exact absurd rfl ‹_›)
    · exact ⟨⟨0, Nat.zero_le _, rfl, rfl⟩⟩
    · refine Res.mk ?_
      rw [eq_comm, decide_eq_false_iff_not]
      intro h
      subst h
      exact absurd rfl ‹_›
    · have hlt : j < a.length := by omega
      refine ⟨⟨j + 1, by omega, by rw [wrap64] <;> omega, ?_⟩, by rw [wrap64] <;> omega⟩
      rw [take_getD (d := (⟨0, 0, 0, 0, 0⟩ : Item)) hlt, take_getD (d := (⟨0, 0, 0, 0, 0⟩ : Item)) (show j < b.length by omega), hs]
      congr 2
      (try assumption)
    · refine Res.mk ?_
      rw [eq_comm, decide_eq_true_eq]
      rw [List.take_of_length_le (by omega), List.take_of_length_le (by omega)] at hs
      exact hs
  · exact h.fail.elim

def T_fareboxref12_List_Apply : TT := [(3, ⟨.int .i64, 1, 8, [.int .i64 0], some .int⟩),
  (4, ⟨.bool, 1, 1, [.bool false], some .bool⟩),
  (22, ⟨.slice 52, 1, 24, [.slice none 0 0], none⟩),
  (52, ⟨.strct [(0, 3), (1, 3), (2, 3), (3, 3), (4, 3)], 5, 40, [.int .i64 0, .int .i64 0, .int .i64 0, .int .i64 0, .int .i64 0], some .item⟩),
  (80, ⟨.ptr, 1, 8, [.pointer none], none⟩),
  (82, ⟨.strct [(0, 3), (1, 22)], 2, 32, [.int .i64 0, .slice none 0 0], none⟩)]
theorem tOk_fareboxref12_List_Apply : TOk Try.prog T_fareboxref12_List_Apply := tOk_of (by kernel_rfl)
def sp_fareboxref12_List_Apply : Spec := fun args hp => match args, hp with
  | [.ptr 0 0, .val (.int .i64 to), .slF 1, .slF 2, .val (.bool act)], [(0, .cells [.val (.int .i64 l_version), .slF 3]), (1, .row o_add .item add), (2, .row o_off .item off), (3, .row true .item l_items)] => .vc (add.length ≤ 1048576 ∧ off.length ≤ 1048576 ∧ l_items.length ≤ 1048576 ∧ -9223372036854775808 ≤ l_version ∧ to ≤ 9223372036854775807) (iv (applyE act l_version l_items to add off)) [(0, some (.cells [iv (applyV act l_version l_items to add off), .slF 2000])), (3, none), (2000, some (.row true .item (applyL act l_version l_items to add off)))]
  | _, _ => .fail "fareboxref12_List_Apply"
abbrev k_fareboxref12_List_Apply : List (Option RK) := [none, none, some .item, some .item, none]
def a_fareboxref12_List_Apply : List SV → List (Nat × VB) → Anns := fun args hp => match args, hp with
  | [.ptr 0 0, .val (.int .i64 to), .slF 1, .slF 2, .val (.bool act)], [(0, .cells [.val (.int .i64 l_version), .slF 3]), (1, .row o_add .item add), (2, .row o_off .item off), (3, .row true .item l_items)] => [(6, fun S => .inv [] [] [] fun ids vs rs => { cars := [.i 11 .i64], inv := fun ((i, _) : Int × Unit) => IAll (rightI act) add i, mu := fun ((i, _) : Int × Unit) => add.length - i.toNat }),
    (11, fun S => .inv [] [] [] fun ids vs rs => { cars := [.i 12 .i64], inv := fun ((i, _) : Int × Unit) => IAll (rightI act) off i, mu := fun ((i, _) : Int × Unit) => off.length - i.toNat }),
    (17, fun S => .inv [] [] [] fun ids vs rs => { cars := [.i 14 .i64, .r 13 true .item], inv := fun ((i, n, _) : Int × List Item × Unit) => IOff off l_items i n, mu := fun ((i, n, _) : Int × List Item × Unit) => l_items.length - i.toNat }),
    (22, fun S => .inv [] [] [] fun ids vs rs => { cars := [.i 15 .i64, .r 13 true .item], inv := fun ((i, n, _) : Int × List Item × Unit) => IAdd (offI off l_items) add i n, mu := fun ((i, n, _) : Int × List Item × Unit) => add.length - i.toNat })]
  | _, _ => []
set_option maxHeartbeats 20000000 in
theorem ok_fareboxref12_List_Apply : GOk Try.prog 37 (lift k_fareboxref12_List_Apply sp_fareboxref12_List_Apply) := by
  refine pf_ok (T := T_fareboxref12_List_Apply) (Γ := (97, lift k_fareboxref12_Right sp_fareboxref12_Right) :: (24, lift k_fareboxref12_In sp_fareboxref12_In) :: []) tOk_fareboxref12_List_Apply (gOks_cons ok_fareboxref12_Right (gOks_cons ok_fareboxref12_In (gOks_nil _))) mixed Try.func37 (c := body Try.f37) (by kernel_rfl) (by kernel_rfl) k_fareboxref12_List_Apply sp_fareboxref12_List_Apply (by kernel_rfl) (by kernel_rfl) a_fareboxref12_List_Apply ?_
  intro args hp s u hfit h
  unfold sp_fareboxref12_List_Apply at h
  split at h
  · rename_i to act l_version o_add add o_off off l_items
    obtain ⟨hvc, rfl, rfl⟩ := h.vc
    clear h hfit
    change List Item at add
    change List Item at off
    conv => whnf
    repeat' (first
      | (refine And.intro ?_ ?_ <;> try conv => whnf)
      | (intro hh; first | (cases hh; done) | conv => whnf))
    all_goals try first | rfl | kernel_rfl
    all_goals try simp only [decide_eq_true_eq, decide_eq_false_iff_not] at *
    all_goals try simp only [Key_eta, Share_eta, Journey_eta, Batch_eta, FieldT_eta, OpB_eta, Product_eta, Item_eta, Delta_eta, Elem_eta, Rule_eta, Do10_eta, Ask_eta, Key_beq, Share_beq, Journey_beq, FieldT_beq, Product_beq, Item_beq, Do10_beq, Ask_beq, toNat0, toNat1, toNat2, toNat3, toNat4, toNat5, toNat6, toNat7, toNat8, toNat9, toNat10, toNat11, toNat12, toNat13, toNat14, toNat15, toNat16, toNat17, toNat18, toNat19, iA, iOf, atS, rwA, castK, zK, true_and, and_true, decide_eq_true_eq, decide_eq_false_iff_not, beq_iff_eq, bne_iff_ne, beq_eq_false_iff_ne, bne_eq_false_iff_eq, Bool.not_eq_true', Bool.not_eq_false', Bool.not_eq_true, Bool.not_eq_false, Nat.succ_eq_add_one, Int.not_lt, Int.not_le, gt_iff_lt, ge_iff_le, show bytesS T_fareboxref12_List_Apply 22 = 40 from rfl] at *
    all_goals obtain ⟨hA, hO, hI, hv0, hto⟩ := hvc
    all_goals try (
      have hex := ‹IAll _ add _›
      obtain ⟨j, hj, rfl, hb⟩ := hex)
    all_goals try (
      have hex := ‹IAll _ off _›
      obtain ⟨p, hp_, rfl, hc⟩ := hex)
    all_goals try (
      have hex := ‹IOff _ _ _ _›
      obtain ⟨m, hm, rfl, rfl⟩ := hex
      have hml := offI_len off (l_items.take m)
      rw [List.length_take] at hml)
    all_goals try (
      have hex := ‹IAdd _ _ _ _›
      obtain ⟨q, hq, rfl, rfl⟩ := hex
      have hml2 := offI_len off l_items
      have hql := addI_len (add.take q) (offI off l_items)
      rw [List.length_take] at hql)
    all_goals try simp only [Int.toNat_natCast] at *
    all_goals try (refine Vc.mk ?_; first | omega | (simp only [List.length_cons, List.length_nil]; omega))
    · exact Res.mk (by have : applyE act l_version l_items to add off = 31 := if_pos (by omega); simp [applyV, applyL, this])
    · have hne : to ≠ l_version + 1 := by rw [wrap64 (by omega) (by omega)] at *; omega
      have : applyE act l_version l_items to add off = 28 := by unfold applyE; rw [if_neg (by omega), if_pos hne]
      exact Res.mk (by simp [applyV, applyL, this])
    · exact ⟨⟨0, Nat.zero_le _, rfl, rfl⟩⟩
    · have hno := not_all (l := add) (p := rightI act) (d := (⟨0, 0, 0, 0, 0⟩ : Item)) (j := j) (by omega) ‹_›
      have hne : to = l_version + 1 := by rw [wrap64 (by omega) (by omega)] at *; omega
      have : applyE act l_version l_items to add off = 2 := by unfold applyE; rw [if_neg (by omega), if_neg (by omega), if_pos (by rw [List.all_append, hno]; rfl)]
      exact Res.mk (by simp [applyV, applyL, this])
    · refine ⟨⟨j + 1, by omega, by rw [wrap64] <;> omega, ?_⟩, by rw [wrap64] <;> omega⟩
      rw [take_getD (d := (⟨0, 0, 0, 0, 0⟩ : Item)) (by omega), all_snoc, hb, Bool.true_and]
      assumption
    · exact ⟨⟨0, Nat.zero_le _, rfl, rfl⟩⟩
    · have hno := not_all (l := off) (p := rightI act) (d := (⟨0, 0, 0, 0, 0⟩ : Item)) (j := p) (by omega) ‹_›
      have hne : to = l_version + 1 := by rw [wrap64 (by omega) (by omega)] at *; omega
      have : applyE act l_version l_items to add off = 2 := by unfold applyE; rw [if_neg (by omega), if_neg (by omega), if_pos (by rw [List.all_append, hno, Bool.and_false])]
      exact Res.mk (by simp [applyV, applyL, this])
    · refine ⟨⟨p + 1, by omega, by rw [wrap64] <;> omega, ?_⟩, by rw [wrap64] <;> omega⟩
      rw [take_getD (d := (⟨0, 0, 0, 0, 0⟩ : Item)) (by omega), all_snoc, hc, Bool.true_and]
      assumption
    · exact ⟨⟨0, Nat.zero_le _, rfl, rfl⟩⟩
    · refine ⟨⟨m + 1, by omega, by rw [wrap64] <;> omega, ?_⟩, by rw [wrap64] <;> omega⟩
      rw [take_getD (d := (⟨0, 0, 0, 0, 0⟩ : Item)) (by omega), offI_snoc, if_neg (of_decide_eq_false ‹_›)]
    · refine ⟨⟨m + 1, by omega, by rw [wrap64] <;> omega, ?_⟩, by rw [wrap64] <;> omega⟩
      rw [take_getD (d := (⟨0, 0, 0, 0, 0⟩ : Item)) (by omega), offI_snoc, if_pos (of_decide_eq_true ‹_›)]
    · obtain rfl : m = l_items.length := by omega
      rw [List.take_length]
      exact ⟨⟨0, Nat.zero_le _, rfl, rfl⟩⟩
    · refine ⟨⟨q + 1, by omega, by rw [wrap64] <;> omega, ?_⟩, by rw [wrap64] <;> omega⟩
      rw [take_getD (d := (⟨0, 0, 0, 0, 0⟩ : Item)) (by omega), addI_snoc, if_neg (of_decide_eq_false ‹_›)]
    · refine ⟨⟨q + 1, by omega, by rw [wrap64] <;> omega, ?_⟩, by rw [wrap64] <;> omega⟩
      rw [take_getD (d := (⟨0, 0, 0, 0, 0⟩ : Item)) (by omega), addI_snoc, if_pos (of_decide_eq_true ‹_›)]
    all_goals (
      obtain rfl : q = add.length := by omega
      obtain rfl : j = add.length := by omega
      obtain rfl : p = off.length := by omega
      rw [List.take_length] at *
      have hall : (add ++ off).all (rightI act) = true := by rw [List.all_append, hb, hc]; rfl
      have hne : to = l_version + 1 := by rw [wrap64 (by omega) (by omega)] at *; omega)
    · have : applyE act l_version l_items to add off = 20 := by unfold applyE; rw [if_neg (by omega), if_neg (by omega), if_neg (by rw [hall]; simp), if_pos (by unfold nextI; omega)]
      exact Res.mk (by simp [applyV, applyL, this])
    · have : applyE act l_version l_items to add off = 0 := by unfold applyE; rw [if_neg (by omega), if_neg (by omega), if_neg (by rw [hall]; simp), if_neg (by unfold nextI; omega)]
      exact Res.mk (by simp [applyV, applyL, this, nextI])
  · exact h.fail.elim

def T_fareboxref12_List_Has : TT := [(3, ⟨.int .i64, 1, 8, [.int .i64 0], some .int⟩),
  (4, ⟨.bool, 1, 1, [.bool false], some .bool⟩),
  (22, ⟨.slice 52, 1, 24, [.slice none 0 0], none⟩),
  (52, ⟨.strct [(0, 3), (1, 3), (2, 3), (3, 3), (4, 3)], 5, 40, [.int .i64 0, .int .i64 0, .int .i64 0, .int .i64 0, .int .i64 0], some .item⟩),
  (80, ⟨.ptr, 1, 8, [.pointer none], none⟩),
  (82, ⟨.strct [(0, 3), (1, 22)], 2, 32, [.int .i64 0, .slice none 0 0], none⟩)]
theorem tOk_fareboxref12_List_Has : TOk Try.prog T_fareboxref12_List_Has := tOk_of (by kernel_rfl)
def sp_fareboxref12_List_Has : Spec := fun args hp => match args, hp with
  | [.ptr 0 0, .val (.int .i64 card), .val (.int .i64 owner), .val (.int .i64 id)], [(0, .cells [.val (.int .i64 h_version), .slF 1]), (1, .row true .item h_items)] => .vc (h_items.length ≤ 1099511627776 ∧ ∀ x ∈ h_items, 0 ≤ x.owner) (bv (h_items.any (hitI card owner id))) []
  | _, _ => .fail "fareboxref12_List_Has"
abbrev k_fareboxref12_List_Has : List (Option RK) := [none, none, none, none]
def a_fareboxref12_List_Has : List SV → List (Nat × VB) → Anns := fun args hp => match args, hp with
  | [.ptr 0 0, .val (.int .i64 card), .val (.int .i64 owner), .val (.int .i64 id)], [(0, .cells [.val (.int .i64 h_version), .slF 1]), (1, .row true .item h_items)] => [(2, fun S => .inv [] [] [] fun ids vs rs => { cars := [.i 9 .i64], inv := fun ((i, _) : Int × Unit) => IAny (hitI card owner id) h_items i, mu := fun ((i, _) : Int × Unit) => h_items.length - i.toNat })]
  | _, _ => []
set_option maxHeartbeats 20000000 in
theorem ok_fareboxref12_List_Has : GOk Try.prog 38 (lift k_fareboxref12_List_Has sp_fareboxref12_List_Has) := by
  refine pf_ok (T := T_fareboxref12_List_Has) (Γ := []) tOk_fareboxref12_List_Has (gOks_nil _) mixed Try.func38 (c := body Try.f38) (by kernel_rfl) (by kernel_rfl) k_fareboxref12_List_Has sp_fareboxref12_List_Has (by kernel_rfl) (by kernel_rfl) a_fareboxref12_List_Has ?_
  intro args hp s u hfit h
  unfold sp_fareboxref12_List_Has at h
  split at h
  · rename_i card owner id h_version h_items
    obtain ⟨hvc, rfl, rfl⟩ := h.vc
    clear h hfit
    conv => whnf
    repeat' (first
      | (refine And.intro ?_ ?_ <;> try conv => whnf)
      | (intro hh; first | (cases hh; done) | conv => whnf))
    all_goals try first | rfl | kernel_rfl
    all_goals try simp only [decide_eq_true_eq, decide_eq_false_iff_not] at *
    all_goals try simp only [Key_eta, Share_eta, Journey_eta, Batch_eta, FieldT_eta, OpB_eta, Product_eta, Item_eta, Delta_eta, Elem_eta, Rule_eta, Do10_eta, Ask_eta, Key_beq, Share_beq, Journey_beq, FieldT_beq, Product_beq, Item_beq, Do10_beq, Ask_beq, toNat0, toNat1, toNat2, toNat3, toNat4, toNat5, toNat6, toNat7, toNat8, toNat9, toNat10, toNat11, toNat12, toNat13, toNat14, toNat15, toNat16, toNat17, toNat18, toNat19, iA, iOf, atS, rwA, castK, zK, true_and, and_true, decide_eq_true_eq, decide_eq_false_iff_not, beq_iff_eq, bne_iff_ne, beq_eq_false_iff_ne, bne_eq_false_iff_eq, Bool.not_eq_true', Bool.not_eq_false', Bool.not_eq_true, Bool.not_eq_false, Nat.succ_eq_add_one, Int.not_lt, Int.not_le, gt_iff_lt, ge_iff_le, show bytesS T_fareboxref12_List_Has 22 = 40 from rfl] at *
    all_goals obtain ⟨hL, hpos⟩ := hvc
    all_goals try (
      have hex := ‹IAny _ _ _›
      obtain ⟨j, hj, rfl, hb⟩ := hex
      (try simp only [Int.toNat_natCast] at *))
    all_goals try (refine Vc.mk ?_; omega)
    · exact ⟨⟨0, Nat.zero_le _, rfl, rfl⟩⟩
    all_goals try (
      have hp := hpos _ (mem_getD (d := (⟨0, 0, 0, 0, 0⟩ : Item)) (j := j) (by omega)))
    all_goals first
      | (refine Res.mk ?_
         exact (any_getD (j := j) (d := (⟨0, 0, 0, 0, 0⟩ : Item)) (by omega) (by simp only [hitI, aboutI, Bool.or_eq_true, decide_eq_true_eq]; omega)).symm)
      | (refine ⟨⟨j + 1, by omega, by rw [wrap64] <;> omega, ?_⟩, by rw [wrap64] <;> omega⟩
         rw [take_getD (d := (⟨0, 0, 0, 0, 0⟩ : Item)) (by omega), any_snoc, hb, Bool.false_or, ← Bool.not_eq_true]
         simp only [hitI, aboutI, Bool.or_eq_true, decide_eq_true_eq]
         omega)
      | (refine Res.mk ?_
         rw [← hb, show j = h_items.length by omega, List.take_length])
  · exact h.fail.elim

end Go.Proofs.Ythbmllekbbfobaa.Sx
