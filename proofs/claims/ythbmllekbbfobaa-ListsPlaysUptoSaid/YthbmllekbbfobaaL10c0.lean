import Derived.Test.YthbmllekbbfobaaProg
import Derived.Test.YthbmllekbbfobaaSxU
import Derived.IntWalk
import Derived.Test.YthbmllekbbfobaaL10r
/-! lists, stable sorting -/
namespace Go.Proofs.Ythbmllekbbfobaa.Sx
open Go
set_option linter.unusedVariables false
set_option linter.unusedSimpArgs false
set_option maxRecDepth 100000

def T_cmp_isNaN_int : TT := [(3, ⟨.int .i64, 1, 8, [.int .i64 0], some .int⟩),
  (4, ⟨.bool, 1, 1, [.bool false], some .bool⟩)]
theorem tOk_cmp_isNaN_int : TOk Try.prog T_cmp_isNaN_int := tOk_of (by kernel_rfl)
def sp_cmp_isNaN_int : Spec := fun args hp => match args, hp with
  | [.val (.int .i64 x)], [] => .ok (bv false) []
  | _, _ => .fail "cmp_isNaN_int"
abbrev k_cmp_isNaN_int : List (Option RK) := [none]
def a_cmp_isNaN_int : List SV → List (Nat × VB) → Anns := fun _ _ => []
set_option maxHeartbeats 20000000 in
theorem ok_cmp_isNaN_int : GOk Try.prog 133 (lift k_cmp_isNaN_int sp_cmp_isNaN_int) := by
  refine pf_ok (T := T_cmp_isNaN_int) (Γ := []) tOk_cmp_isNaN_int (gOks_nil _) mixed Try.func133 (c := body Try.f133) (by kernel_rfl) (by kernel_rfl) k_cmp_isNaN_int sp_cmp_isNaN_int (by kernel_rfl) (by kernel_rfl) a_cmp_isNaN_int ?_
  intro args hp s u hfit h
  unfold sp_cmp_isNaN_int at h
  split at h
  · rename_i x
    obtain ⟨rfl, rfl⟩ := h.ok
    clear h hfit
    conv => whnf
    repeat' (first
      | (refine And.intro ?_ ?_ <;> try conv => whnf)
      | (intro hh; first | (cases hh; done) | conv => whnf))
    all_goals try first | rfl | kernel_rfl
    all_goals try simp only [decide_eq_true_eq, decide_eq_false_iff_not] at *
    all_goals try simp only [Key_eta, Share_eta, Journey_eta, Batch_eta, FieldT_eta, OpB_eta, Product_eta, Item_eta, Delta_eta, Elem_eta, Rule_eta, Do10_eta, Ask_eta, Key_beq, Share_beq, Journey_beq, FieldT_beq, Product_beq, Item_beq, Do10_beq, Ask_beq, toNat0, toNat1, toNat2, toNat3, toNat4, toNat5, toNat6, toNat7, toNat8, toNat9, toNat10, toNat11, toNat12, toNat13, toNat14, toNat15, toNat16, toNat17, toNat18, toNat19, iA, iOf, atS, rwA, castK, zK, true_and, and_true, decide_eq_true_eq, decide_eq_false_iff_not, beq_iff_eq, bne_iff_ne, beq_eq_false_iff_ne, bne_eq_false_iff_eq, Bool.not_eq_true', Bool.not_eq_false', Bool.not_eq_true, Bool.not_eq_false, Nat.succ_eq_add_one, Int.not_lt, Int.not_le, gt_iff_lt, ge_iff_le] at *
    exact Res.mk trivial
  · exact h.fail.elim

def T_cmp_Compare_int : TT := [(3, ⟨.int .i64, 1, 8, [.int .i64 0], some .int⟩),
  (4, ⟨.bool, 1, 1, [.bool false], some .bool⟩)]
theorem tOk_cmp_Compare_int : TOk Try.prog T_cmp_Compare_int := tOk_of (by kernel_rfl)
def sp_cmp_Compare_int : Spec := fun args hp => match args, hp with
  | [.val (.int .i64 x), .val (.int .i64 y)], [] => .ok (iv (cmpI x y)) []
  | _, _ => .fail "cmp_Compare_int"
abbrev k_cmp_Compare_int : List (Option RK) := [none, none]
def a_cmp_Compare_int : List SV → List (Nat × VB) → Anns := fun _ _ => []
set_option maxHeartbeats 20000000 in
theorem ok_cmp_Compare_int : GOk Try.prog 93 (lift k_cmp_Compare_int sp_cmp_Compare_int) := by
  refine pf_ok (T := T_cmp_Compare_int) (Γ := (133, lift k_cmp_isNaN_int sp_cmp_isNaN_int) :: []) tOk_cmp_Compare_int (gOks_cons ok_cmp_isNaN_int (gOks_nil _)) mixed Try.func93 (c := body Try.f93) (by kernel_rfl) (by kernel_rfl) k_cmp_Compare_int sp_cmp_Compare_int (by kernel_rfl) (by kernel_rfl) a_cmp_Compare_int ?_
  intro args hp s u hfit h
  unfold sp_cmp_Compare_int at h
  split at h
  · rename_i x y
    obtain ⟨rfl, rfl⟩ := h.ok
    clear h hfit
    conv => whnf
    repeat' (first
      | (refine And.intro ?_ ?_ <;> try conv => whnf)
      | (intro hh; first | (cases hh; done) | conv => whnf))
    all_goals try first | rfl | kernel_rfl
    all_goals try simp only [decide_eq_true_eq, decide_eq_false_iff_not] at *
    all_goals try simp only [Key_eta, Share_eta, Journey_eta, Batch_eta, FieldT_eta, OpB_eta, Product_eta, Item_eta, Delta_eta, Elem_eta, Rule_eta, Do10_eta, Ask_eta, Key_beq, Share_beq, Journey_beq, FieldT_beq, Product_beq, Item_beq, Do10_beq, Ask_beq, toNat0, toNat1, toNat2, toNat3, toNat4, toNat5, toNat6, toNat7, toNat8, toNat9, toNat10, toNat11, toNat12, toNat13, toNat14, toNat15, toNat16, toNat17, toNat18, toNat19, iA, iOf, atS, rwA, castK, zK, true_and, and_true, decide_eq_true_eq, decide_eq_false_iff_not, beq_iff_eq, bne_iff_ne, beq_eq_false_iff_ne, bne_eq_false_iff_eq, Bool.not_eq_true', Bool.not_eq_false', Bool.not_eq_true, Bool.not_eq_false, Nat.succ_eq_add_one, Int.not_lt, Int.not_le, gt_iff_lt, ge_iff_le] at *
    all_goals refine Res.mk ?_
    all_goals unfold cmpI
    all_goals (
      first
        | rw [if_pos (by assumption)]
        | (rw [if_neg (by omega)]; first | rw [if_pos (by assumption)] | rw [if_neg (by omega)]))
  · exact h.fail.elim

def T_lists_Act_For_1 : TT := [(3, ⟨.int .i64, 1, 8, [.int .i64 0], some .int⟩),
  (52, ⟨.strct [(0, 3), (1, 3), (2, 3), (3, 3), (4, 3)], 5, 40, [.int .i64 0, .int .i64 0, .int .i64 0, .int .i64 0, .int .i64 0], some .item⟩)]
theorem tOk_lists_Act_For_1 : TOk Try.prog T_lists_Act_For_1 := tOk_of (by kernel_rfl)
def sp_lists_Act_For_1 : Spec := fun args hp => match args, hp with
  | [.agg x_cs, .agg y_cs], [] => (match decS .item x_cs with
    | some x => (match decS .item y_cs with
    | some y => .ok (iv (cmpI x.number y.number)) []
    | none => .fail "struct")
    | none => .fail "struct")
  | _, _ => .fail "lists_Act_For_1"
abbrev k_lists_Act_For_1 : List (Option RK) := [none, none]
def a_lists_Act_For_1 : List SV → List (Nat × VB) → Anns := fun _ _ => []
set_option maxHeartbeats 20000000 in
theorem ok_lists_Act_For_1 : GOk Try.prog 92 (lift k_lists_Act_For_1 sp_lists_Act_For_1) := by
  refine pf_ok (T := T_lists_Act_For_1) (Γ := (93, lift k_cmp_Compare_int sp_cmp_Compare_int) :: []) tOk_lists_Act_For_1 (gOks_cons ok_cmp_Compare_int (gOks_nil _)) mixed Try.func92 (c := body Try.f92) (by kernel_rfl) (by kernel_rfl) k_lists_Act_For_1 sp_lists_Act_For_1 (by kernel_rfl) (by kernel_rfl) a_lists_Act_For_1 ?_
  intro args hp s u hfit h
  unfold sp_lists_Act_For_1 at h
  split at h
  · rename_i x_cs y_cs
    split at h
    case h_2 => exact h.fail.elim
    rename_i x h_x
    obtain rfl := decS_ok (k := .item) rfl h_x
    clear h_x
    change Item at x
    split at h
    case h_2 => exact h.fail.elim
    rename_i y h_y
    obtain rfl := decS_ok (k := .item) rfl h_y
    clear h_y
    change Item at y
    obtain ⟨rfl, rfl⟩ := h.ok
    clear h hfit
    conv => whnf
    repeat' (first
      | (refine And.intro ?_ ?_ <;> try conv => whnf)
      | (intro hh; first | (cases hh; done) | conv => whnf))
    all_goals try first | rfl | kernel_rfl
    all_goals try simp only [decide_eq_true_eq, decide_eq_false_iff_not] at *
    all_goals try simp only [Key_eta, Share_eta, Journey_eta, Batch_eta, FieldT_eta, OpB_eta, Product_eta, Item_eta, Delta_eta, Elem_eta, Rule_eta, Do10_eta, Ask_eta, Key_beq, Share_beq, Journey_beq, FieldT_beq, Product_beq, Item_beq, Do10_beq, Ask_beq, toNat0, toNat1, toNat2, toNat3, toNat4, toNat5, toNat6, toNat7, toNat8, toNat9, toNat10, toNat11, toNat12, toNat13, toNat14, toNat15, toNat16, toNat17, toNat18, toNat19, iA, iOf, atS, rwA, castK, zK, true_and, and_true, decide_eq_true_eq, decide_eq_false_iff_not, beq_iff_eq, bne_iff_ne, beq_eq_false_iff_ne, bne_eq_false_iff_eq, Bool.not_eq_true', Bool.not_eq_false', Bool.not_eq_true, Bool.not_eq_false, Nat.succ_eq_add_one, Int.not_lt, Int.not_le, gt_iff_lt, ge_iff_le] at *
    all_goals exact Res.mk trivial
  · exact h.fail.elim

def T_lists_Act_For_2 : TT := [(3, ⟨.int .i64, 1, 8, [.int .i64 0], some .int⟩),
  (4, ⟨.bool, 1, 1, [.bool false], some .bool⟩),
  (52, ⟨.strct [(0, 3), (1, 3), (2, 3), (3, 3), (4, 3)], 5, 40, [.int .i64 0, .int .i64 0, .int .i64 0, .int .i64 0, .int .i64 0], some .item⟩)]
theorem tOk_lists_Act_For_2 : TOk Try.prog T_lists_Act_For_2 := tOk_of (by kernel_rfl)
def sp_lists_Act_For_2 : Spec := fun args hp => match args, hp with
  | [.agg x_cs, .agg y_cs], [] => (match decS .item x_cs with
    | some x => (match decS .item y_cs with
    | some y => .ok (bv (decide (x.number = y.number))) []
    | none => .fail "struct")
    | none => .fail "struct")
  | _, _ => .fail "lists_Act_For_2"
abbrev k_lists_Act_For_2 : List (Option RK) := [none, none]
def a_lists_Act_For_2 : List SV → List (Nat × VB) → Anns := fun _ _ => []
set_option maxHeartbeats 20000000 in
theorem ok_lists_Act_For_2 : GOk Try.prog 96 (lift k_lists_Act_For_2 sp_lists_Act_For_2) := by
  refine pf_ok (T := T_lists_Act_For_2) (Γ := []) tOk_lists_Act_For_2 (gOks_nil _) mixed Try.func96 (c := body Try.f96) (by kernel_rfl) (by kernel_rfl) k_lists_Act_For_2 sp_lists_Act_For_2 (by kernel_rfl) (by kernel_rfl) a_lists_Act_For_2 ?_
  intro args hp s u hfit h
  unfold sp_lists_Act_For_2 at h
  split at h
  · rename_i x_cs y_cs
    split at h
    case h_2 => exact h.fail.elim
    rename_i x h_x
    obtain rfl := decS_ok (k := .item) rfl h_x
    clear h_x
    change Item at x
    split at h
    case h_2 => exact h.fail.elim
    rename_i y h_y
    obtain rfl := decS_ok (k := .item) rfl h_y
    clear h_y
    change Item at y
    obtain ⟨rfl, rfl⟩ := h.ok
    clear h hfit
    conv => whnf
    repeat' (first
      | (refine And.intro ?_ ?_ <;> try conv => whnf)
      | (intro hh; first | (cases hh; done) | conv => whnf))
    all_goals try first | rfl | kernel_rfl
    all_goals try simp only [decide_eq_true_eq, decide_eq_false_iff_not] at *
    all_goals try simp only [Key_eta, Share_eta, Journey_eta, Batch_eta, FieldT_eta, OpB_eta, Product_eta, Item_eta, Delta_eta, Elem_eta, Rule_eta, Do10_eta, Ask_eta, Key_beq, Share_beq, Journey_beq, FieldT_beq, Product_beq, Item_beq, Do10_beq, Ask_beq, toNat0, toNat1, toNat2, toNat3, toNat4, toNat5, toNat6, toNat7, toNat8, toNat9, toNat10, toNat11, toNat12, toNat13, toNat14, toNat15, toNat16, toNat17, toNat18, toNat19, iA, iOf, atS, rwA, castK, zK, true_and, and_true, decide_eq_true_eq, decide_eq_false_iff_not, beq_iff_eq, bne_iff_ne, beq_eq_false_iff_ne, bne_eq_false_iff_eq, Bool.not_eq_true', Bool.not_eq_false', Bool.not_eq_true, Bool.not_eq_false, Nat.succ_eq_add_one, Int.not_lt, Int.not_le, gt_iff_lt, ge_iff_le] at *
    all_goals exact Res.mk rfl
  · exact h.fail.elim

def T_slices_swapRangeCmpFunc_api_Item : TT := [(3, ⟨.int .i64, 1, 8, [.int .i64 0], some .int⟩),
  (4, ⟨.bool, 1, 1, [.bool false], some .bool⟩),
  (22, ⟨.slice 52, 1, 24, [.slice none 0 0], none⟩),
  (52, ⟨.strct [(0, 3), (1, 3), (2, 3), (3, 3), (4, 3)], 5, 40, [.int .i64 0, .int .i64 0, .int .i64 0, .int .i64 0, .int .i64 0], some .item⟩),
  (170, ⟨.other, 1, 8, [.nilFunc], none⟩)]
theorem tOk_slices_swapRangeCmpFunc_api_Item : TOk Try.prog T_slices_swapRangeCmpFunc_api_Item := tOk_of (by kernel_rfl)
def sp_slices_swapRangeCmpFunc_api_Item : Spec := fun args hp => match args, hp with
  | [.slF 0, .val (.int .i64 a), .val (.int .i64 b), .val (.int .i64 n), .fn (.func 92) [] []], [(0, .row true .item data)] => .vc (0 ≤ a ∧ 0 ≤ n ∧ a + n ≤ b ∧ b + n ≤ data.length ∧ data.length ≤ 4096) (.tup []) [(0, some (.row true .item (permL zIt (swpI a.toNat b.toNat n.toNat) data)))]
  | _, _ => .fail "slices_swapRangeCmpFunc_api_Item"
abbrev k_slices_swapRangeCmpFunc_api_Item : List (Option RK) := [some .item, none, none, none, none]
def a_slices_swapRangeCmpFunc_api_Item : List SV → List (Nat × VB) → Anns := fun args hp => match args, hp with
  | [.slF 0, .val (.int .i64 a), .val (.int .i64 b), .val (.int .i64 n), .fn (.func 92) [] []], [(0, .row true .item data)] => [(1, fun S => .inv [pOf (S.get 0)] [] [] fun ids vs rs => { cars := [.i 10 .i64, .row (atN ids 0) true .item], inv := fun ((i, xs, _) : Int × List Item × Unit) => ISw data a b n i xs, mu := fun ((i, xs, _) : Int × List Item × Unit) => n.toNat - i.toNat })]
  | _, _ => []
set_option maxHeartbeats 20000000 in
theorem ok_slices_swapRangeCmpFunc_api_Item : GOk Try.prog 161 (lift k_slices_swapRangeCmpFunc_api_Item sp_slices_swapRangeCmpFunc_api_Item) := by
  refine pf_ok (T := T_slices_swapRangeCmpFunc_api_Item) (Γ := []) tOk_slices_swapRangeCmpFunc_api_Item (gOks_nil _) mixed Try.func161 (c := body Try.f161) (by kernel_rfl) (by kernel_rfl) k_slices_swapRangeCmpFunc_api_Item sp_slices_swapRangeCmpFunc_api_Item (by kernel_rfl) (by kernel_rfl) a_slices_swapRangeCmpFunc_api_Item ?_
  intro args hp s u hfit h
  unfold sp_slices_swapRangeCmpFunc_api_Item at h
  split at h
  · rename_i a b n data
    obtain ⟨hvc, rfl, rfl⟩ := h.vc
    clear h hfit
    change List Item at data
    conv => whnf
    repeat' (first
      | (refine And.intro ?_ ?_ <;> try conv => whnf)
      | (intro hh; first | (cases hh; done) | conv => whnf))
    all_goals try first | rfl | kernel_rfl
    all_goals try simp only [decide_eq_true_eq, decide_eq_false_iff_not] at *
    all_goals try simp only [Key_eta, Share_eta, Journey_eta, Batch_eta, FieldT_eta, OpB_eta, Product_eta, Item_eta, Delta_eta, Elem_eta, Rule_eta, Do10_eta, Ask_eta, Key_beq, Share_beq, Journey_beq, FieldT_beq, Product_beq, Item_beq, Do10_beq, Ask_beq, toNat0, toNat1, toNat2, toNat3, toNat4, toNat5, toNat6, toNat7, toNat8, toNat9, toNat10, toNat11, toNat12, toNat13, toNat14, toNat15, toNat16, toNat17, toNat18, toNat19, iA, iOf, atS, rwA, castK, zK, true_and, and_true, decide_eq_true_eq, decide_eq_false_iff_not, beq_iff_eq, bne_iff_ne, beq_eq_false_iff_ne, bne_eq_false_iff_eq, Bool.not_eq_true', Bool.not_eq_false', Bool.not_eq_true, Bool.not_eq_false, Nat.succ_eq_add_one, Int.not_lt, Int.not_le, gt_iff_lt, ge_iff_le, show bytesS T_slices_swapRangeCmpFunc_api_Item 22 = 40 from rfl] at *
    all_goals obtain ⟨h0, h1, h2, h3, h4⟩ := hvc
    all_goals obtain ⟨a', rfl⟩ := natI h0
    all_goals obtain ⟨b', rfl⟩ := natI (show 0 ≤ b by omega)
    all_goals obtain ⟨n', rfl⟩ := natI h1
    all_goals try (
      have q := ‹ISw _ _ _ _ _ _›
      obtain ⟨k, rfl, hk, hp⟩ := q
      have hl := hp.1)
    all_goals try (
      have w1 : IntKind.i64.wrap ((a' : Int) + k) = ((a' + k : Nat) : Int) := by rw [wrap64 (by omega) (by omega)]; omega
      have w2 : IntKind.i64.wrap ((b' : Int) + k) = ((b' + k : Nat) : Int) := by rw [wrap64 (by omega) (by omega)]; omega
      have w3 : IntKind.i64.wrap ((k : Int) + 1) = ((k + 1 : Nat) : Int) := by rw [wrap64 (by omega) (by omega)]; omega
      simp only [w1, w2, w3, Int.toNat_natCast] at *)
    all_goals try (refine Vc.mk ?_; (try rw [List.length_set]); omega)
    · exact ⟨⟨0, rfl, by omega, PI.start fun p => by unfold swpI; (repeat' split) <;> omega⟩⟩
    · exact ⟨⟨k + 1, rfl, by omega, swap_sw hp (by omega) (by omega)⟩, by omega⟩
    · obtain rfl : k = n' := by omega
      exact Res.mk hp.eq
  · exact h.fail.elim

def T_slices_rotateCmpFunc_api_Item : TT := [(3, ⟨.int .i64, 1, 8, [.int .i64 0], some .int⟩),
  (4, ⟨.bool, 1, 1, [.bool false], some .bool⟩),
  (22, ⟨.slice 52, 1, 24, [.slice none 0 0], none⟩),
  (52, ⟨.strct [(0, 3), (1, 3), (2, 3), (3, 3), (4, 3)], 5, 40, [.int .i64 0, .int .i64 0, .int .i64 0, .int .i64 0, .int .i64 0], some .item⟩),
  (170, ⟨.other, 1, 8, [.nilFunc], none⟩)]
theorem tOk_slices_rotateCmpFunc_api_Item : TOk Try.prog T_slices_rotateCmpFunc_api_Item := tOk_of (by kernel_rfl)
def sp_slices_rotateCmpFunc_api_Item : Spec := fun args hp => match args, hp with
  | [.slF 0, .val (.int .i64 a), .val (.int .i64 k), .val (.int .i64 b), .fn (.func 92) [] []], [(0, .row true .item data)] => .vc (0 ≤ a ∧ a < k ∧ k < b ∧ b ≤ data.length ∧ data.length ≤ 4096) (.tup []) [(0, some (.row true .item (permL zIt (rotI a.toNat k.toNat b.toNat) data)))]
  | _, _ => .fail "slices_rotateCmpFunc_api_Item"
abbrev k_slices_rotateCmpFunc_api_Item : List (Option RK) := [some .item, none, none, none, none]
def a_slices_rotateCmpFunc_api_Item : List SV → List (Nat × VB) → Anns := fun args hp => match args, hp with
  | [.slF 0, .val (.int .i64 a), .val (.int .i64 k), .val (.int .i64 b), .fn (.func 92) [] []], [(0, .row true .item data)] => [(2, fun S => .inv [pOf (S.get 0)] [] [] fun ids vs rs => { cars := [.i 10 .i64, .i 11 .i64, .row (atN ids 0) true .item], inv := fun ((i, j, xs, _) : Int × Int × List Item × Unit) => IRt data a k b i j xs, mu := fun ((i, j, xs, _) : Int × Int × List Item × Unit) => i.toNat + j.toNat })]
  | _, _ => []
set_option maxHeartbeats 20000000 in
theorem ok_slices_rotateCmpFunc_api_Item : GOk Try.prog 157 (lift k_slices_rotateCmpFunc_api_Item sp_slices_rotateCmpFunc_api_Item) := by
  refine pf_ok (T := T_slices_rotateCmpFunc_api_Item) (Γ := (161, lift k_slices_swapRangeCmpFunc_api_Item sp_slices_swapRangeCmpFunc_api_Item) :: []) tOk_slices_rotateCmpFunc_api_Item (gOks_cons ok_slices_swapRangeCmpFunc_api_Item (gOks_nil _)) mixed Try.func157 (c := body Try.f157) (by kernel_rfl) (by kernel_rfl) k_slices_rotateCmpFunc_api_Item sp_slices_rotateCmpFunc_api_Item (by kernel_rfl) (by kernel_rfl) a_slices_rotateCmpFunc_api_Item ?_
  intro args hp s u hfit h
  unfold sp_slices_rotateCmpFunc_api_Item at h
  split at h
  · rename_i a k b data
    obtain ⟨hvc, rfl, rfl⟩ := h.vc
    clear h hfit
    change List Item at data
    conv => whnf
    repeat' (first
      | (refine And.intro ?_ ?_ <;> try conv => whnf)
      | (intro hh; first | (cases hh; done) | conv => whnf))
    all_goals try first | rfl | kernel_rfl
    all_goals try simp only [decide_eq_true_eq, decide_eq_false_iff_not] at *
    all_goals try simp only [Key_eta, Share_eta, Journey_eta, Batch_eta, FieldT_eta, OpB_eta, Product_eta, Item_eta, Delta_eta, Elem_eta, Rule_eta, Do10_eta, Ask_eta, Key_beq, Share_beq, Journey_beq, FieldT_beq, Product_beq, Item_beq, Do10_beq, Ask_beq, toNat0, toNat1, toNat2, toNat3, toNat4, toNat5, toNat6, toNat7, toNat8, toNat9, toNat10, toNat11, toNat12, toNat13, toNat14, toNat15, toNat16, toNat17, toNat18, toNat19, iA, iOf, atS, rwA, castK, zK, true_and, and_true, decide_eq_true_eq, decide_eq_false_iff_not, beq_iff_eq, bne_iff_ne, beq_eq_false_iff_ne, bne_eq_false_iff_eq, Bool.not_eq_true', Bool.not_eq_false', Bool.not_eq_true, Bool.not_eq_false, Nat.succ_eq_add_one, Int.not_lt, Int.not_le, gt_iff_lt, ge_iff_le, show bytesS T_slices_rotateCmpFunc_api_Item 22 = 40 from rfl] at *
    all_goals obtain ⟨h0, h1, h2, h3, h4⟩ := hvc
    all_goals obtain ⟨a', rfl⟩ := natI h0
    all_goals obtain ⟨k', rfl⟩ := natI (show 0 ≤ k by omega)
    all_goals obtain ⟨b', rfl⟩ := natI (show 0 ≤ b by omega)
    all_goals try (
      have q := ‹IRt _ _ _ _ _ _ _›
      obtain ⟨p, q, rfl, rfl, hp, hq, h5, h6, hl, he⟩ := q
      have w1 : IntKind.i64.wrap ((k' : Int) - p) = ((k' - p : Nat) : Int) := by rw [wrap64 (by omega) (by omega)]; omega
      have w4 : IntKind.i64.wrap ((k' : Int) + q) = ((k' + q : Nat) : Int) := by rw [wrap64 (by omega) (by omega)]; omega
      simp only [w1, w4, Int.toNat_natCast] at *)
    all_goals try (
      have w2 : IntKind.i64.wrap ((p : Int) - q) = ((p - q : Nat) : Int) := by rw [wrap64 (by omega) (by omega)]; omega
      simp only [w2, Int.toNat_natCast] at *)
    all_goals try (
      have w3 : IntKind.i64.wrap ((q : Int) - p) = ((q - p : Nat) : Int) := by rw [wrap64 (by omega) (by omega)]; omega
      simp only [w3, Int.toNat_natCast] at *)
    all_goals try (
      have w5 : IntKind.i64.wrap (((k' + q : Nat) : Int) - p) = ((k' + q - p : Nat) : Int) := by rw [wrap64 (by omega) (by omega)]; omega
      simp only [w5, Int.toNat_natCast] at *)
    all_goals try (refine Vc.mk ?_; omega)
    · rw [wrap64 (by omega) (by omega), wrap64 (by omega) (by omega)]
      refine ⟨⟨k' - a', b' - k', by omega, by omega, by omega, by omega, by omega, by omega, rfl, ?_⟩⟩
      simp only [Int.toNat_natCast]
      rw [show k' - (k' - a') = a' by omega, show k' + (b' - k') = b' by omega]
    · refine ⟨⟨p - q, q, rfl, rfl, by omega, hq, by omega, by omega, by rw [permL_length]; exact hl, ?_⟩, by omega⟩
      simp only [Int.toNat_natCast]
      rw [rot_more (by omega) (by omega) (by omega)]; exact he
    · refine ⟨⟨p, q - p, rfl, rfl, hp, by omega, by omega, by omega, by rw [permL_length]; exact hl, ?_⟩, by omega⟩
      simp only [Int.toNat_natCast]
      rw [rot_less (by omega) (by omega) (by omega)]; exact he
    · obtain rfl : p = q := by omega
      rw [rot_same (by omega)]
      exact Res.mk he
  · exact h.fail.elim

end Go.Proofs.Ythbmllekbbfobaa.Sx
