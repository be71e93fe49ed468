import Derived.Test.YthbmllekbbfobaaProg
import Derived.Test.YthbmllekbbfobaaSxU
import Derived.IntWalk
import Derived.Test.YthbmllekbbfobaaM1r
/-! money -/
namespace Go.Proofs.Ythbmllekbbfobaa.Sx
open Go
set_option linter.unusedVariables false
set_option linter.unusedSimpArgs false
set_option maxRecDepth 100000

def T_cmp_isNaN_int : TT := [(3, ⟨.int .i64, 1, 8, [.int .i64 0], some .int⟩),
  (4, ⟨.bool, 1, 1, [.bool false], some .bool⟩)]
theorem tOk_cmp_isNaN_int : TOk Try.prog T_cmp_isNaN_int := tOk_of (by kernel_rfl)
def sp_cmp_isNaN_int : Spec := fun args hp => match args, hp with
  | [.val (.int .i64 x)], [] => .ok (bv false) []
  | _, _ => .fail "cmp_isNaN_int"
abbrev k_cmp_isNaN_int : List (Option RK) := [none]
def a_cmp_isNaN_int : List SV → List (Nat × VB) → Anns := fun _ _ => []
set_option maxHeartbeats 20000000 in
theorem ok_cmp_isNaN_int : GOk Try.prog 133 (lift k_cmp_isNaN_int sp_cmp_isNaN_int) := by
  refine pf_ok (T := T_cmp_isNaN_int) (Γ := []) tOk_cmp_isNaN_int (gOks_nil _) mixed Try.func133 (c := body Try.f133) (by kernel_rfl) (by kernel_rfl) k_cmp_isNaN_int sp_cmp_isNaN_int (by kernel_rfl) (by kernel_rfl) a_cmp_isNaN_int ?_
  intro args hp s u hfit h
  unfold sp_cmp_isNaN_int at h
  split at h
  · rename_i x
    obtain ⟨rfl, rfl⟩ := h.ok
    clear h hfit
    conv => whnf
    repeat' (first
      | (refine And.intro ?_ ?_ <;> try conv => whnf)
      | (intro hh; first | (cases hh; done) | conv => whnf))
    all_goals try first | rfl | kernel_rfl
    all_goals try simp only [decide_eq_true_eq, decide_eq_false_iff_not] at *
    all_goals try simp only [Key_eta, Share_eta, Journey_eta, Batch_eta, FieldT_eta, OpB_eta, Product_eta, Item_eta, Delta_eta, Elem_eta, Rule_eta, Do10_eta, Ask_eta, Key_beq, Share_beq, Journey_beq, FieldT_beq, Product_beq, Item_beq, Do10_beq, Ask_beq, toNat0, toNat1, toNat2, toNat3, toNat4, toNat5, toNat6, toNat7, toNat8, toNat9, toNat10, toNat11, toNat12, toNat13, toNat14, toNat15, toNat16, toNat17, toNat18, toNat19, iA, iOf, atS, rwA, castK, zK, true_and, and_true, decide_eq_true_eq, decide_eq_false_iff_not, beq_iff_eq, bne_iff_ne, beq_eq_false_iff_ne, bne_eq_false_iff_eq, Bool.not_eq_true', Bool.not_eq_false', Bool.not_eq_true, Bool.not_eq_false, Nat.succ_eq_add_one, Int.not_lt, Int.not_le, gt_iff_lt, ge_iff_le] at *
    exact Res.mk trivial
  · exact h.fail.elim

def T_cmp_Compare_int : TT := [(3, ⟨.int .i64, 1, 8, [.int .i64 0], some .int⟩),
  (4, ⟨.bool, 1, 1, [.bool false], some .bool⟩)]
theorem tOk_cmp_Compare_int : TOk Try.prog T_cmp_Compare_int := tOk_of (by kernel_rfl)
def sp_cmp_Compare_int : Spec := fun args hp => match args, hp with
  | [.val (.int .i64 x), .val (.int .i64 y)], [] => .ok (iv (cmpI x y)) []
  | _, _ => .fail "cmp_Compare_int"
abbrev k_cmp_Compare_int : List (Option RK) := [none, none]
def a_cmp_Compare_int : List SV → List (Nat × VB) → Anns := fun _ _ => []
set_option maxHeartbeats 20000000 in
theorem ok_cmp_Compare_int : GOk Try.prog 93 (lift k_cmp_Compare_int sp_cmp_Compare_int) := by
  refine pf_ok (T := T_cmp_Compare_int) (Γ := (133, lift k_cmp_isNaN_int sp_cmp_isNaN_int) :: []) tOk_cmp_Compare_int (gOks_cons ok_cmp_isNaN_int (gOks_nil _)) mixed Try.func93 (c := body Try.f93) (by kernel_rfl) (by kernel_rfl) k_cmp_Compare_int sp_cmp_Compare_int (by kernel_rfl) (by kernel_rfl) a_cmp_Compare_int ?_
  intro args hp s u hfit h
  unfold sp_cmp_Compare_int at h
  split at h
  · rename_i x y
    obtain ⟨rfl, rfl⟩ := h.ok
    clear h hfit
    conv => whnf
    repeat' (first
      | (refine And.intro ?_ ?_ <;> try conv => whnf)
      | (intro hh; first | (cases hh; done) | conv => whnf))
    all_goals try first | rfl | kernel_rfl
    all_goals try simp only [decide_eq_true_eq, decide_eq_false_iff_not] at *
    all_goals try simp only [Key_eta, Share_eta, Journey_eta, Batch_eta, FieldT_eta, OpB_eta, Product_eta, Item_eta, Delta_eta, Elem_eta, Rule_eta, Do10_eta, Ask_eta, Key_beq, Share_beq, Journey_beq, FieldT_beq, Product_beq, Item_beq, Do10_beq, Ask_beq, toNat0, toNat1, toNat2, toNat3, toNat4, toNat5, toNat6, toNat7, toNat8, toNat9, toNat10, toNat11, toNat12, toNat13, toNat14, toNat15, toNat16, toNat17, toNat18, toNat19, iA, iOf, atS, rwA, castK, zK, true_and, and_true, decide_eq_true_eq, decide_eq_false_iff_not, beq_iff_eq, bne_iff_ne, beq_eq_false_iff_ne, bne_eq_false_iff_eq, Bool.not_eq_true', Bool.not_eq_false', Bool.not_eq_true, Bool.not_eq_false, Nat.succ_eq_add_one, Int.not_lt, Int.not_le, gt_iff_lt, ge_iff_le] at *
    all_goals refine Res.mk ?_
    all_goals unfold cmpI
    · rw [if_pos (by omega)]
    · rw [if_neg (by omega), if_pos (by omega)]
    · rw [if_neg (by omega), if_neg (by omega)]
  · exact h.fail.elim

def T_money_right : TT := [(3, ⟨.int .i64, 1, 8, [.int .i64 0], some .int⟩),
  (4, ⟨.bool, 1, 1, [.bool false], some .bool⟩),
  (41, ⟨.slice 3, 1, 24, [.slice none 0 0], none⟩)]
theorem tOk_money_right : TOk Try.prog T_money_right := tOk_of (by kernel_rfl)
def sp_money_right : Spec := fun args hp => match args, hp with
  | [.val (.int .i64 a), .slF 0], [(0, .row o_ws .int ws)] => .vc (ws.length ≤ 1099511627776) (bv (rightM a ws)) []
  | _, _ => .fail "money_right"
abbrev k_money_right : List (Option RK) := [none, some .int]
def a_money_right : List SV → List (Nat × VB) → Anns := fun args hp => match args, hp with
  | [.val (.int .i64 a), .slF 0], [(0, .row o_ws .int ws)] => [(5, fun S => .inv [] [] [] fun ids vs rs => { cars := [.i 21 .i64, .b 5], inv := fun ((i, some_, _) : Int × Bool × Unit) => IRM ws i some_, mu := fun ((i, some_, _) : Int × Bool × Unit) => ws.length - i.toNat })]
  | _, _ => []
set_option maxHeartbeats 20000000 in
theorem ok_money_right : GOk Try.prog 139 (lift k_money_right sp_money_right) := by
  refine pf_ok (T := T_money_right) (Γ := []) tOk_money_right (gOks_nil _) mixed Try.func139 (c := body Try.f139) (by kernel_rfl) (by kernel_rfl) k_money_right sp_money_right (by kernel_rfl) (by kernel_rfl) a_money_right ?_
  intro args hp s u hfit h
  unfold sp_money_right at h
  split at h
  · rename_i a o_ws ws
    obtain ⟨hvc, rfl, rfl⟩ := h.vc
    clear h hfit
    change List Int at ws
    conv => whnf
    repeat' (first
      | (refine And.intro ?_ ?_ <;> try conv => whnf)
      | (intro hh; first | (cases hh; done) | conv => whnf))
    all_goals try first | rfl | kernel_rfl
    all_goals try simp only [decide_eq_true_eq, decide_eq_false_iff_not] at *
    all_goals try simp only [Key_eta, Share_eta, Journey_eta, Batch_eta, FieldT_eta, OpB_eta, Product_eta, Item_eta, Delta_eta, Elem_eta, Rule_eta, Do10_eta, Ask_eta, Key_beq, Share_beq, Journey_beq, FieldT_beq, Product_beq, Item_beq, Do10_beq, Ask_beq, toNat0, toNat1, toNat2, toNat3, toNat4, toNat5, toNat6, toNat7, toNat8, toNat9, toNat10, toNat11, toNat12, toNat13, toNat14, toNat15, toNat16, toNat17, toNat18, toNat19, iA, iOf, atS, rwA, castK, zK, true_and, and_true, decide_eq_true_eq, decide_eq_false_iff_not, beq_iff_eq, bne_iff_ne, beq_eq_false_iff_ne, bne_eq_false_iff_eq, Bool.not_eq_true', Bool.not_eq_false', Bool.not_eq_true, Bool.not_eq_false, Nat.succ_eq_add_one, Int.not_lt, Int.not_le, gt_iff_lt, ge_iff_le, show bytesS T_money_right 41 = 8 from rfl] at *
    all_goals try (
      obtain ⟨j, hj, rfl, h1, rfl⟩ := ‹IRM _ _ _›
      (try simp only [Int.toNat_natCast] at *))
    all_goals try (refine Vc.mk ?_; omega)
    · exact Res.mk (by simp [rightM]; omega)
    · exact Res.mk (by simp [rightM]; omega)
    · exact Res.mk (by simp [rightM]; omega)
    · exact ⟨⟨0, Nat.zero_le _, rfl, rfl, rfl⟩⟩
    · exact Res.mk (rightM_bad (j := j) (by omega) (by omega)).symm
    · exact Res.mk (rightM_bad (j := j) (by omega) (by omega)).symm
    · have hlt : j < ws.length := by omega
      refine ⟨⟨j + 1, by omega, by rw [wrap64] <;> omega, ?_, ?_⟩, by rw [wrap64] <;> omega⟩
      · rw [take_succ hlt, List.all_append, h1]; simp only [List.all_cons, List.all_nil, Bool.true_and, Bool.and_true, Bool.and_eq_true, decide_eq_true_eq]; exact ⟨‹_›, ‹_›⟩
      · rw [take_succ hlt, List.any_append, ‹List.any _ _ = true›]; rfl
    · have hlt : j < ws.length := by omega
      refine ⟨⟨j + 1, by omega, by rw [wrap64] <;> omega, ?_, ?_⟩, by rw [wrap64] <;> omega⟩
      · rw [take_succ hlt, List.all_append, h1]; simp only [List.all_cons, List.all_nil, Bool.true_and, Bool.and_true, Bool.and_eq_true, decide_eq_true_eq]; exact ⟨‹_›, ‹_›⟩
      · rw [take_succ hlt, List.any_append, ‹List.any _ _ = false›]; simp
    · obtain rfl : j = ws.length := by omega
      rw [List.take_length] at *
      refine Res.mk ?_
      simp only [rightM, h1, Bool.and_true]
      rw [decide_eq_true ‹0 ≤ a›, decide_eq_true ‹a ≤ 2147483648›, decide_eq_true (show ws.length ≤ 16 by omega)]
      simp
  · exact h.fail.elim

def T_money_Split_1 : TT := [(3, ⟨.int .i64, 1, 8, [.int .i64 0], some .int⟩),
  (41, ⟨.slice 3, 1, 24, [.slice none 0 0], none⟩)]
theorem tOk_money_Split_1 : TOk Try.prog T_money_Split_1 := tOk_of (by kernel_rfl)
def sp_money_Split_1 : Spec := fun args hp => match args, hp with
  | [.val (.int .i64 x), .val (.int .i64 y), .ptr 0 0, .ptr 1 0, .ptr 2 0], [(0, .cells [.val (.int .i64 am_v)]), (1, .cells [.slF 3]), (2, .cells [.val (.int .i64 al_v)]), (3, .row o_wp_l .int wp_l)] => .vc (OkM am_v wp_l al_v ∧ 0 ≤ x ∧ x < wp_l.length ∧ 0 ≤ y ∧ y < wp_l.length) (iv (cmpI (keyM am_v wp_l al_v y) (keyM am_v wp_l al_v x))) []
  | _, _ => .fail "money_Split_1"
abbrev k_money_Split_1 : List (Option RK) := [none, none, none, none, none]
def a_money_Split_1 : List SV → List (Nat × VB) → Anns := fun _ _ => []
set_option maxHeartbeats 20000000 in
theorem ok_money_Split_1 : GOk Try.prog 142 (lift k_money_Split_1 sp_money_Split_1) := by
  refine pf_ok (T := T_money_Split_1) (Γ := (93, lift k_cmp_Compare_int sp_cmp_Compare_int) :: []) tOk_money_Split_1 (gOks_cons ok_cmp_Compare_int (gOks_nil _)) mixed Try.func142 (c := body Try.f142) (by kernel_rfl) (by kernel_rfl) k_money_Split_1 sp_money_Split_1 (by kernel_rfl) (by kernel_rfl) a_money_Split_1 ?_
  intro args hp s u hfit h
  unfold sp_money_Split_1 at h
  split at h
  · rename_i x y am_v al_v o_wp_l wp_l
    obtain ⟨hvc, rfl, rfl⟩ := h.vc
    clear h hfit
    conv => whnf
    repeat' (first
      | (refine And.intro ?_ ?_ <;> try conv => whnf)
      | (intro hh; first | (cases hh; done) | conv => whnf))
    all_goals try first | rfl | kernel_rfl
    all_goals try simp only [decide_eq_true_eq, decide_eq_false_iff_not] at *
    all_goals try simp only [Key_eta, Share_eta, Journey_eta, Batch_eta, FieldT_eta, OpB_eta, Product_eta, Item_eta, Delta_eta, Elem_eta, Rule_eta, Do10_eta, Ask_eta, Key_beq, Share_beq, Journey_beq, FieldT_beq, Product_beq, Item_beq, Do10_beq, Ask_beq, toNat0, toNat1, toNat2, toNat3, toNat4, toNat5, toNat6, toNat7, toNat8, toNat9, toNat10, toNat11, toNat12, toNat13, toNat14, toNat15, toNat16, toNat17, toNat18, toNat19, iA, iOf, atS, rwA, castK, zK, true_and, and_true, decide_eq_true_eq, decide_eq_false_iff_not, beq_iff_eq, bne_iff_ne, beq_eq_false_iff_ne, bne_eq_false_iff_eq, Bool.not_eq_true', Bool.not_eq_false', Bool.not_eq_true, Bool.not_eq_false, Nat.succ_eq_add_one, Int.not_lt, Int.not_le, gt_iff_lt, ge_iff_le, show bytesS T_money_Split_1 41 = 8 from rfl] at *
    all_goals obtain ⟨⟨o1, o2, o3, o4, o5, o6⟩, h1, h2, h3, h4⟩ := hvc
    all_goals try (refine Vc.mk ?_; omega)
    all_goals (
      have hx := o4 _ (mem_getD (d := (0 : Int)) (show x.toNat < wp_l.length by omega))
      have hy := o4 _ (mem_getD (d := (0 : Int)) (show y.toNat < wp_l.length by omega))
      have mx := mulM o1 o2 hx.1 hx.2
      have my := mulM o1 o2 hy.1 hy.2)
    refine Res.mk ?_
    unfold keyM
    rw [wrap64 (n := am_v * wp_l.getD y.toNat 0) (by omega) (by omega), wrap64 (n := am_v * wp_l.getD x.toNat 0) (by omega) (by omega), Int.tmod_eq_emod_of_nonneg my.1, Int.tmod_eq_emod_of_nonneg mx.1]
  · exact h.fail.elim

def T_slices_insertionSortCmpFunc_int : TT := [(3, ⟨.int .i64, 1, 8, [.int .i64 0], some .int⟩),
  (4, ⟨.bool, 1, 1, [.bool false], some .bool⟩),
  (41, ⟨.slice 3, 1, 24, [.slice none 0 0], none⟩),
  (169, ⟨.other, 1, 8, [.nilFunc], none⟩)]
theorem tOk_slices_insertionSortCmpFunc_int : TOk Try.prog T_slices_insertionSortCmpFunc_int := tOk_of (by kernel_rfl)
def sp_slices_insertionSortCmpFunc_int : Spec := fun args hp => match args, hp with
  | [.slF 0, .val (.int .i64 a), .val (.int .i64 b), .fn (.func 142) [] [.ptr 1 0, .ptr 2 0, .ptr 3 0]], [(0, .row true .int data), (1, .cells [.val (.int .i64 am_v)]), (2, .cells [.slF 4]), (3, .cells [.val (.int .i64 al_v)]), (4, .row o_wp_l .int wp_l)] => .vc (OkM am_v wp_l al_v ∧ IdxM wp_l.length data ∧ a = 0 ∧ b = data.length ∧ data.length ≤ 16) (.tup []) [(0, some (.row true .int (sortD (keyM am_v wp_l al_v) data)))]
  | _, _ => .fail "slices_insertionSortCmpFunc_int"
abbrev k_slices_insertionSortCmpFunc_int : List (Option RK) := [some .int, none, none, none]
def a_slices_insertionSortCmpFunc_int : List SV → List (Nat × VB) → Anns := fun args hp => match args, hp with
  | [.slF 0, .val (.int .i64 a), .val (.int .i64 b), .fn (.func 142) [] [.ptr 1 0, .ptr 2 0, .ptr 3 0]], [(0, .row true .int data), (1, .cells [.val (.int .i64 am_v)]), (2, .cells [.slF 4]), (3, .cells [.val (.int .i64 al_v)]), (4, .row o_wp_l .int wp_l)] => [(1, fun S => .inv [pOf (S.get 0)] [] [] fun ids vs rs => { cars := [.i 8 .i64, .row (atN ids 0) true .int], inv := fun ((i, xs, _) : Int × List Int × Unit) => IS1 (keyM am_v wp_l al_v) data i xs, mu := fun ((i, xs, _) : Int × List Int × Unit) => data.length - i.toNat }),
    (4, fun S => .inv [pOf (S.get 0)] [S.get 8] [] fun ids vs rs => { cars := [.i 9 .i64, .row (atN ids 0) true .int], inv := fun ((j, xs, _) : Int × List Int × Unit) => IS2 (keyM am_v wp_l al_v) (sortD (keyM am_v wp_l al_v) (data.take ((iA vs 0)).toNat)) (data.getD ((iA vs 0)).toNat 0) (data.drop (((iA vs 0)).toNat + 1)) j xs, mu := fun ((j, xs, _) : Int × List Int × Unit) => j.toNat })]
  | _, _ => []
set_option maxHeartbeats 20000000 in
theorem ok_slices_insertionSortCmpFunc_int : GOk Try.prog 159 (lift k_slices_insertionSortCmpFunc_int sp_slices_insertionSortCmpFunc_int) := by
  refine pf_ok (T := T_slices_insertionSortCmpFunc_int) (Γ := (142, lift k_money_Split_1 sp_money_Split_1) :: []) tOk_slices_insertionSortCmpFunc_int (gOks_cons ok_money_Split_1 (gOks_nil _)) mixed Try.func159 (c := body Try.f159) (by kernel_rfl) (by kernel_rfl) k_slices_insertionSortCmpFunc_int sp_slices_insertionSortCmpFunc_int (by kernel_rfl) (by kernel_rfl) a_slices_insertionSortCmpFunc_int ?_
  intro args hp s u hfit h
  unfold sp_slices_insertionSortCmpFunc_int at h
  split at h
  · rename_i a b data am_v al_v o_wp_l wp_l
    obtain ⟨hvc, rfl, rfl⟩ := h.vc
    clear h hfit
    change List Int at data
    conv => whnf
    repeat' (first
      | (refine And.intro ?_ ?_ <;> try conv => whnf)
      | (intro hh; first | (cases hh; done) | conv => whnf))
    all_goals try first | rfl | kernel_rfl
    all_goals try simp only [decide_eq_true_eq, decide_eq_false_iff_not] at *
    all_goals try simp only [Key_eta, Share_eta, Journey_eta, Batch_eta, FieldT_eta, OpB_eta, Product_eta, Item_eta, Delta_eta, Elem_eta, Rule_eta, Do10_eta, Ask_eta, Key_beq, Share_beq, Journey_beq, FieldT_beq, Product_beq, Item_beq, Do10_beq, Ask_beq, toNat0, toNat1, toNat2, toNat3, toNat4, toNat5, toNat6, toNat7, toNat8, toNat9, toNat10, toNat11, toNat12, toNat13, toNat14, toNat15, toNat16, toNat17, toNat18, toNat19, iA, iOf, atS, rwA, castK, zK, true_and, and_true, decide_eq_true_eq, decide_eq_false_iff_not, beq_iff_eq, bne_iff_ne, beq_eq_false_iff_ne, bne_eq_false_iff_eq, Bool.not_eq_true', Bool.not_eq_false', Bool.not_eq_true, Bool.not_eq_false, Nat.succ_eq_add_one, Int.not_lt, Int.not_le, gt_iff_lt, ge_iff_le, show bytesS T_slices_insertionSortCmpFunc_int 41 = 8 from rfl] at *
    all_goals obtain ⟨hO, hX, rfl, rfl, hL⟩ := hvc
    all_goals try (
      have q2 := ‹IS2 _ _ _ _ _ _›
      obtain ⟨f1, f2, f3, f4, f5, f6⟩ := is2_facts q2)
    all_goals try (
      have q1 := ‹IS1 _ _ _ _›
      have q3 := ‹_ < (data.length : Int)›
      obtain ⟨g0, g1⟩ := is1_facts q1 q3)
    all_goals try (
      have f7 := idx_all hX (by omega) f6
      rw [sortD_length, List.length_take] at f2 f3
      rw [List.length_drop] at f3)
    all_goals try (refine Vc.mk ?_; (try rw [List.length_set]); (try rw [wrap64 (by omega) (by omega)]); omega)
    · exact ⟨is1_zero⟩
    · exact ⟨g1⟩
    · rw [wrap64 (by omega) (by omega)]
      exact Vc.mk ⟨hO, (idx_get f7 f1 (by omega)).1, (idx_get f7 f1 (by omega)).2, (idx_get f7 (by omega) (by omega)).1, (idx_get f7 (by omega) (by omega)).2⟩
    · rw [wrap64 (by omega) (by omega)] at *
      have hc := cmpI_neg.1 ‹cmpI _ _ < 0›
      rw [f4, f5 (by omega)] at hc
      exact ⟨is2_step q2 (by omega) hc, by omega⟩
    · rw [wrap64 (by omega) (by omega)] at *
      have hc0 := ‹0 ≤ cmpI _ _›
      have hc := (not_congr cmpI_neg).1 (Int.not_lt.2 hc0)
      rw [f4, f5 (by omega)] at hc
      exact ⟨is1_next g0 (by omega) (is2_end q2 fun _ => hc), by omega⟩
    · rw [wrap64 (by omega) (by omega)]
      exact ⟨is1_next g0 (by omega) (is2_end q2 fun h => absurd h (by omega)), by omega⟩
    · exact Res.mk (is1_end ‹IS1 _ _ _ _› (by omega))
  · exact h.fail.elim

def T_slices_stableCmpFunc_int : TT := [(3, ⟨.int .i64, 1, 8, [.int .i64 0], some .int⟩),
  (4, ⟨.bool, 1, 1, [.bool false], some .bool⟩),
  (41, ⟨.slice 3, 1, 24, [.slice none 0 0], none⟩),
  (169, ⟨.other, 1, 8, [.nilFunc], none⟩)]
theorem tOk_slices_stableCmpFunc_int : TOk Try.prog T_slices_stableCmpFunc_int := tOk_of (by kernel_rfl)
def sp_slices_stableCmpFunc_int : Spec := fun args hp => match args, hp with
  | [.slF 0, .val (.int .i64 n), .fn (.func 142) [] [.ptr 1 0, .ptr 2 0, .ptr 3 0]], [(0, .row true .int data), (1, .cells [.val (.int .i64 am_v)]), (2, .cells [.slF 4]), (3, .cells [.val (.int .i64 al_v)]), (4, .row o_wp_l .int wp_l)] => .vc (OkM am_v wp_l al_v ∧ IdxM wp_l.length data ∧ n = data.length ∧ data.length ≤ 16) (.tup []) [(0, some (.row true .int (sortD (keyM am_v wp_l al_v) data)))]
  | _, _ => .fail "slices_stableCmpFunc_int"
abbrev k_slices_stableCmpFunc_int : List (Option RK) := [some .int, none, none]
def a_slices_stableCmpFunc_int : List SV → List (Nat × VB) → Anns := fun args hp => match args, hp with
  | [.slF 0, .val (.int .i64 n), .fn (.func 142) [] [.ptr 1 0, .ptr 2 0, .ptr 3 0]], [(0, .row true .int data), (1, .cells [.val (.int .i64 am_v)]), (2, .cells [.slF 4]), (3, .cells [.val (.int .i64 al_v)]), (4, .row o_wp_l .int wp_l)] => [(2, fun S => .unroll 1),
    (7, fun S => .unroll 1),
    (9, fun S => .unroll 1)]
  | _, _ => []
set_option maxHeartbeats 20000000 in
theorem ok_slices_stableCmpFunc_int : GOk Try.prog 154 (lift k_slices_stableCmpFunc_int sp_slices_stableCmpFunc_int) := by
  refine pf_ok (T := T_slices_stableCmpFunc_int) (Γ := (159, lift k_slices_insertionSortCmpFunc_int sp_slices_insertionSortCmpFunc_int) :: []) tOk_slices_stableCmpFunc_int (gOks_cons ok_slices_insertionSortCmpFunc_int (gOks_nil _)) mixed Try.func154 (c := body Try.f154) (by kernel_rfl) (by kernel_rfl) k_slices_stableCmpFunc_int sp_slices_stableCmpFunc_int (by kernel_rfl) (by kernel_rfl) a_slices_stableCmpFunc_int ?_
  intro args hp s u hfit h
  unfold sp_slices_stableCmpFunc_int at h
  split at h
  · rename_i n data am_v al_v o_wp_l wp_l
    obtain ⟨hvc, rfl, rfl⟩ := h.vc
    clear h hfit
    change List Int at data
    conv => whnf
    repeat' (first
      | (refine And.intro ?_ ?_ <;> try conv => whnf)
      | (intro hh; first | (cases hh; done) | conv => whnf))
    all_goals try first | rfl | kernel_rfl
    all_goals try simp only [decide_eq_true_eq, decide_eq_false_iff_not] at *
    all_goals try simp only [Key_eta, Share_eta, Journey_eta, Batch_eta, FieldT_eta, OpB_eta, Product_eta, Item_eta, Delta_eta, Elem_eta, Rule_eta, Do10_eta, Ask_eta, Key_beq, Share_beq, Journey_beq, FieldT_beq, Product_beq, Item_beq, Do10_beq, Ask_beq, toNat0, toNat1, toNat2, toNat3, toNat4, toNat5, toNat6, toNat7, toNat8, toNat9, toNat10, toNat11, toNat12, toNat13, toNat14, toNat15, toNat16, toNat17, toNat18, toNat19, iA, iOf, atS, rwA, castK, zK, true_and, and_true, decide_eq_true_eq, decide_eq_false_iff_not, beq_iff_eq, bne_iff_ne, beq_eq_false_iff_ne, bne_eq_false_iff_eq, Bool.not_eq_true', Bool.not_eq_false', Bool.not_eq_true, Bool.not_eq_false, Nat.succ_eq_add_one, Int.not_lt, Int.not_le, gt_iff_lt, ge_iff_le, show bytesS T_slices_stableCmpFunc_int 41 = 8 from rfl] at *
    all_goals obtain ⟨hO, hX, rfl, hL⟩ := hvc
    all_goals try (exfalso; omega)
    · exact Vc.mk (by simp only [true_and, and_true]; exact ⟨hO, hX, hL⟩)
    · first | exact Res.mk trivial | exact Res.mk rfl
  · exact h.fail.elim

def T_slices_SortStableFunc_int_int : TT := [(3, ⟨.int .i64, 1, 8, [.int .i64 0], some .int⟩),
  (41, ⟨.slice 3, 1, 24, [.slice none 0 0], none⟩),
  (169, ⟨.other, 1, 8, [.nilFunc], none⟩)]
theorem tOk_slices_SortStableFunc_int_int : TOk Try.prog T_slices_SortStableFunc_int_int := tOk_of (by kernel_rfl)
def sp_slices_SortStableFunc_int_int : Spec := fun args hp => match args, hp with
  | [.slF 0, .fn (.func 142) [] [.ptr 1 0, .ptr 2 0, .ptr 3 0]], [(0, .row true .int data), (1, .cells [.val (.int .i64 am_v)]), (2, .cells [.slF 4]), (3, .cells [.val (.int .i64 al_v)]), (4, .row o_wp_l .int wp_l)] => .vc (OkM am_v wp_l al_v ∧ IdxM wp_l.length data ∧ data.length ≤ 16) (.tup []) [(0, some (.row true .int (sortD (keyM am_v wp_l al_v) data)))]
  | _, _ => .fail "slices_SortStableFunc_int_int"
abbrev k_slices_SortStableFunc_int_int : List (Option RK) := [some .int, none]
def a_slices_SortStableFunc_int_int : List SV → List (Nat × VB) → Anns := fun _ _ => []
set_option maxHeartbeats 20000000 in
theorem ok_slices_SortStableFunc_int_int : GOk Try.prog 141 (lift k_slices_SortStableFunc_int_int sp_slices_SortStableFunc_int_int) := by
  refine pf_ok (T := T_slices_SortStableFunc_int_int) (Γ := (154, lift k_slices_stableCmpFunc_int sp_slices_stableCmpFunc_int) :: []) tOk_slices_SortStableFunc_int_int (gOks_cons ok_slices_stableCmpFunc_int (gOks_nil _)) mixed Try.func141 (c := body Try.f141) (by kernel_rfl) (by kernel_rfl) k_slices_SortStableFunc_int_int sp_slices_SortStableFunc_int_int (by kernel_rfl) (by kernel_rfl) a_slices_SortStableFunc_int_int ?_
  intro args hp s u hfit h
  unfold sp_slices_SortStableFunc_int_int at h
  split at h
  · rename_i data am_v al_v o_wp_l wp_l
    obtain ⟨hvc, rfl, rfl⟩ := h.vc
    clear h hfit
    change List Int at data
    conv => whnf
    repeat' (first
      | (refine And.intro ?_ ?_ <;> try conv => whnf)
      | (intro hh; first | (cases hh; done) | conv => whnf))
    all_goals try first | rfl | kernel_rfl
    all_goals try simp only [decide_eq_true_eq, decide_eq_false_iff_not] at *
    all_goals try simp only [Key_eta, Share_eta, Journey_eta, Batch_eta, FieldT_eta, OpB_eta, Product_eta, Item_eta, Delta_eta, Elem_eta, Rule_eta, Do10_eta, Ask_eta, Key_beq, Share_beq, Journey_beq, FieldT_beq, Product_beq, Item_beq, Do10_beq, Ask_beq, toNat0, toNat1, toNat2, toNat3, toNat4, toNat5, toNat6, toNat7, toNat8, toNat9, toNat10, toNat11, toNat12, toNat13, toNat14, toNat15, toNat16, toNat17, toNat18, toNat19, iA, iOf, atS, rwA, castK, zK, true_and, and_true, decide_eq_true_eq, decide_eq_false_iff_not, beq_iff_eq, bne_iff_ne, beq_eq_false_iff_ne, bne_eq_false_iff_eq, Bool.not_eq_true', Bool.not_eq_false', Bool.not_eq_true, Bool.not_eq_false, Nat.succ_eq_add_one, Int.not_lt, Int.not_le, gt_iff_lt, ge_iff_le, show bytesS T_slices_SortStableFunc_int_int 41 = 8 from rfl] at *
    all_goals obtain ⟨hO, hX, hL⟩ := hvc
    · exact Vc.mk ⟨hO, hX, hL⟩
    · first | exact Res.mk trivial | exact Res.mk rfl
  · exact h.fail.elim

end Go.Proofs.Ythbmllekbbfobaa.Sx
