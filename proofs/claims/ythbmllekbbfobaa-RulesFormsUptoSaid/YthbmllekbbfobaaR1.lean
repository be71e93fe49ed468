import Derived.Test.YthbmllekbbfobaaProg
import Derived.Test.YthbmllekbbfobaaSxU
import Derived.IntWalk
import Derived.Test.YthbmllekbbfobaaR1r
/-! rules -/
namespace Go.Proofs.Ythbmllekbbfobaa.Sx
open Go
set_option linter.unusedVariables false
set_option linter.unusedSimpArgs false
set_option maxRecDepth 100000

def T_cmp_Or_int : TT := [(3, ⟨.int .i64, 1, 8, [.int .i64 0], some .int⟩),
  (4, ⟨.bool, 1, 1, [.bool false], some .bool⟩),
  (41, ⟨.slice 3, 1, 24, [.slice none 0 0], none⟩)]
theorem tOk_cmp_Or_int : TOk Try.prog T_cmp_Or_int := tOk_of (by kernel_rfl)
def sp_cmp_Or_int : Spec := fun args hp => match args, hp with
  | [.slF 0], [(0, .row o_vals .int vals)] => .vc (vals.length ≤ 1099511627776) (iv (orI vals)) []
  | _, _ => .fail "cmp_Or_int"
abbrev k_cmp_Or_int : List (Option RK) := [some .int]
def a_cmp_Or_int : List SV → List (Nat × VB) → Anns := fun args hp => match args, hp with
  | [.slF 0], [(0, .row o_vals .int vals)] => [(3, fun S => .inv [] [] [] fun ids vs rs => { cars := [.i 8 .i64], inv := fun ((i, _) : Int × Unit) => IOr vals i, mu := fun ((i, _) : Int × Unit) => vals.length - i.toNat })]
  | _, _ => []
set_option maxHeartbeats 20000000 in
theorem ok_cmp_Or_int : GOk Try.prog 135 (lift k_cmp_Or_int sp_cmp_Or_int) := by
  refine pf_ok (T := T_cmp_Or_int) (Γ := []) tOk_cmp_Or_int (gOks_nil _) mixed Try.func135 (c := body Try.f135) (by kernel_rfl) (by kernel_rfl) k_cmp_Or_int sp_cmp_Or_int (by kernel_rfl) (by kernel_rfl) a_cmp_Or_int ?_
  intro args hp s u hfit h
  unfold sp_cmp_Or_int at h
  split at h
  · rename_i o_vals vals
    obtain ⟨hvc, rfl, rfl⟩ := h.vc
    clear h hfit
    change List Int at vals
    conv => whnf
    repeat' (first
      | (refine And.intro ?_ ?_ <;> try conv => whnf)
      | (intro hh; first | (cases hh; done) | conv => whnf))
    all_goals try first | rfl | kernel_rfl
    all_goals try simp only [decide_eq_true_eq, decide_eq_false_iff_not] at *
    all_goals try simp only [Key_eta, Share_eta, Journey_eta, Batch_eta, FieldT_eta, OpB_eta, Product_eta, Item_eta, Delta_eta, Elem_eta, Rule_eta, Do10_eta, Ask_eta, Key_beq, Share_beq, Journey_beq, FieldT_beq, Product_beq, Item_beq, Do10_beq, Ask_beq, toNat0, toNat1, toNat2, toNat3, toNat4, toNat5, toNat6, toNat7, toNat8, toNat9, toNat10, toNat11, toNat12, toNat13, toNat14, toNat15, toNat16, toNat17, toNat18, toNat19, iA, iOf, atS, rwA, castK, zK, true_and, and_true, decide_eq_true_eq, decide_eq_false_iff_not, beq_iff_eq, bne_iff_ne, beq_eq_false_iff_ne, bne_eq_false_iff_eq, Bool.not_eq_true', Bool.not_eq_false', Bool.not_eq_true, Bool.not_eq_false, Nat.succ_eq_add_one, Int.not_lt, Int.not_le, gt_iff_lt, ge_iff_le, show bytesS T_cmp_Or_int 41 = 8 from rfl] at *
    all_goals try (
      have hex := ‹IOr _ _›
      obtain ⟨j, hj, rfl, h0⟩ := hex)
    all_goals try simp only [Int.toNat_natCast] at *
    all_goals try (
      have ha := orI_at (vals := vals) (show j < vals.length by omega))
    all_goals try (refine Vc.mk ?_; omega)
    · exact ⟨⟨0, Nat.zero_le _, rfl, rfl⟩⟩
    · refine Res.mk ?_
      rw [if_neg ‹_›] at ha
      exact ha.symm.trans h0
    · rw [if_pos ‹_›] at ha
      exact ⟨⟨j + 1, by omega, by rw [wrap64] <;> omega, ha.symm.trans h0⟩, by rw [wrap64] <;> omega⟩
    · refine Res.mk ?_
      rw [← h0, List.drop_eq_nil_of_le (by omega)]
      rfl
  · exact h.fail.elim

def T_rules_order : TT := [(3, ⟨.int .i64, 1, 8, [.int .i64 0], some .int⟩),
  (41, ⟨.slice 3, 1, 24, [.slice none 0 0], none⟩),
  (88, ⟨.strct [(0, 3), (1, 3), (2, 41)], 3, 40, [.int .i64 0, .int .i64 0, .slice none 0 0], some .rule⟩)]
theorem tOk_rules_order : TOk Try.prog T_rules_order := tOk_of (by kernel_rfl)
def sp_rules_order : Spec := fun args hp => match args, hp with
  | [.agg [.val (.int .i64 a_owner), .val (.int .i64 a_op), .slF 0], .agg [.val (.int .i64 b_owner), .val (.int .i64 b_op), .slF 1]], [(0, .row o_a_weights .int a_weights), (1, .row o_b_weights .int b_weights)] => .ok (iv (ordR (⟨a_owner, a_op, a_weights⟩ : Rule) (⟨b_owner, b_op, b_weights⟩ : Rule))) []
  | _, _ => .fail "rules_order"
abbrev k_rules_order : List (Option RK) := [none, none]
def a_rules_order : List SV → List (Nat × VB) → Anns := fun _ _ => []
set_option maxHeartbeats 20000000 in
theorem ok_rules_order : GOk Try.prog 101 (lift k_rules_order sp_rules_order) := by
  refine pf_ok (T := T_rules_order) (Γ := (93, lift k_cmp_Compare_int sp_cmp_Compare_int) :: (135, lift k_cmp_Or_int sp_cmp_Or_int) :: []) tOk_rules_order (gOks_cons ok_cmp_Compare_int (gOks_cons ok_cmp_Or_int (gOks_nil _))) mixed Try.func101 (c := body Try.f101) (by kernel_rfl) (by kernel_rfl) k_rules_order sp_rules_order (by kernel_rfl) (by kernel_rfl) a_rules_order ?_
  intro args hp s u hfit h
  unfold sp_rules_order at h
  split at h
  · rename_i a_owner a_op b_owner b_op o_a_weights a_weights o_b_weights b_weights
    obtain ⟨rfl, rfl⟩ := h.ok
    clear h hfit
    conv => whnf
    repeat' (first
      | (refine And.intro ?_ ?_ <;> try conv => whnf)
      | (intro hh; first | (cases hh; done) | conv => whnf))
    all_goals try first | rfl | kernel_rfl
    all_goals try simp only [decide_eq_true_eq, decide_eq_false_iff_not] at *
    all_goals try simp only [Key_eta, Share_eta, Journey_eta, Batch_eta, FieldT_eta, OpB_eta, Product_eta, Item_eta, Delta_eta, Elem_eta, Rule_eta, Do10_eta, Ask_eta, Key_beq, Share_beq, Journey_beq, FieldT_beq, Product_beq, Item_beq, Do10_beq, Ask_beq, toNat0, toNat1, toNat2, toNat3, toNat4, toNat5, toNat6, toNat7, toNat8, toNat9, toNat10, toNat11, toNat12, toNat13, toNat14, toNat15, toNat16, toNat17, toNat18, toNat19, iA, iOf, atS, rwA, castK, zK, true_and, and_true, decide_eq_true_eq, decide_eq_false_iff_not, beq_iff_eq, bne_iff_ne, beq_eq_false_iff_ne, bne_eq_false_iff_eq, Bool.not_eq_true', Bool.not_eq_false', Bool.not_eq_true, Bool.not_eq_false, Nat.succ_eq_add_one, Int.not_lt, Int.not_le, gt_iff_lt, ge_iff_le, show bytesS T_rules_order 41 = 8 from rfl] at *
    · exact Vc.mk (by simp)
    · refine Res.mk ?_
      rw [orI_two]
      rfl
  · exact h.fail.elim

def T_slices_Clone_int_int : TT := [(3, ⟨.int .i64, 1, 8, [.int .i64 0], some .int⟩),
  (4, ⟨.bool, 1, 1, [.bool false], some .bool⟩),
  (41, ⟨.slice 3, 1, 24, [.slice none 0 0], none⟩)]
theorem tOk_slices_Clone_int_int : TOk Try.prog T_slices_Clone_int_int := tOk_of (by kernel_rfl)
def sp_slices_Clone_int_int : Spec := fun args hp => match args, hp with
  | [.slF 0], [(0, .row o_b .int b)] => .vc (b.length ≤ 1099511627776) (.slF 2000) [(2000, some (.row true .int b))]
  | _, _ => .fail "slices_Clone_int_int"
abbrev k_slices_Clone_int_int : List (Option RK) := [some .int]
def a_slices_Clone_int_int : List SV → List (Nat × VB) → Anns := fun _ _ => []
set_option maxHeartbeats 20000000 in
theorem ok_slices_Clone_int_int : GOk Try.prog 108 (lift k_slices_Clone_int_int sp_slices_Clone_int_int) := by
  refine pf_ok (T := T_slices_Clone_int_int) (Γ := []) tOk_slices_Clone_int_int (gOks_nil _) mixed Try.func108 (c := body Try.f108) (by kernel_rfl) (by kernel_rfl) k_slices_Clone_int_int sp_slices_Clone_int_int (by kernel_rfl) (by kernel_rfl) a_slices_Clone_int_int ?_
  intro args hp s u hfit h
  unfold sp_slices_Clone_int_int at h
  split at h
  · rename_i o_b b
    obtain ⟨hvc, rfl, rfl⟩ := h.vc
    clear h hfit
    change List Int at b
    conv => whnf
    repeat' (first
      | (refine And.intro ?_ ?_ <;> try conv => whnf)
      | (intro hh; first | (cases hh; done) | conv => whnf))
    all_goals try first | rfl | kernel_rfl
    all_goals try simp only [decide_eq_true_eq, decide_eq_false_iff_not] at *
    all_goals try simp only [Key_eta, Share_eta, Journey_eta, Batch_eta, FieldT_eta, OpB_eta, Product_eta, Item_eta, Delta_eta, Elem_eta, Rule_eta, Do10_eta, Ask_eta, Key_beq, Share_beq, Journey_beq, FieldT_beq, Product_beq, Item_beq, Do10_beq, Ask_beq, toNat0, toNat1, toNat2, toNat3, toNat4, toNat5, toNat6, toNat7, toNat8, toNat9, toNat10, toNat11, toNat12, toNat13, toNat14, toNat15, toNat16, toNat17, toNat18, toNat19, iA, iOf, atS, rwA, castK, zK, true_and, and_true, decide_eq_true_eq, decide_eq_false_iff_not, beq_iff_eq, bne_iff_ne, beq_eq_false_iff_ne, bne_eq_false_iff_eq, Bool.not_eq_true', Bool.not_eq_false', Bool.not_eq_true, Bool.not_eq_false, Nat.succ_eq_add_one, Int.not_lt, Int.not_le, gt_iff_lt, ge_iff_le, show bytesS T_slices_Clone_int_int 41 = 8 from rfl] at *
    all_goals first
      | (refine Vc.mk ?_; simp only [List.length_nil]; omega)
      | (refine Res.mk ?_; exact List.nil_append _)
      | (refine Res.mk ?_; (have hl := ‹_ = true → _› ‹(bif false then !_ else _) = true›); first | exact (List.eq_nil_of_length_eq_zero hl).symm | (rw [hl, List.take_zero]))
  · exact h.fail.elim

def T_rules_copied : TT := [(3, ⟨.int .i64, 1, 8, [.int .i64 0], some .int⟩),
  (41, ⟨.slice 3, 1, 24, [.slice none 0 0], none⟩),
  (88, ⟨.strct [(0, 3), (1, 3), (2, 41)], 3, 40, [.int .i64 0, .int .i64 0, .slice none 0 0], some .rule⟩)]
theorem tOk_rules_copied : TOk Try.prog T_rules_copied := tOk_of (by kernel_rfl)
def sp_rules_copied : Spec := fun args hp => match args, hp with
  | [.agg [.val (.int .i64 r_owner), .val (.int .i64 r_op), .slF 0]], [(0, .row o_r_weights .int r_weights)] => .vc ((⟨r_owner, r_op, r_weights⟩ : Rule).weights.length ≤ 1048576) (.agg [iv (⟨r_owner, r_op, r_weights⟩ : Rule).owner, iv (⟨r_owner, r_op, r_weights⟩ : Rule).op, .slF 2000]) [(2000, some (.row true .int (⟨r_owner, r_op, r_weights⟩ : Rule).weights))]
  | _, _ => .fail "rules_copied"
abbrev k_rules_copied : List (Option RK) := [none]
def a_rules_copied : List SV → List (Nat × VB) → Anns := fun _ _ => []
set_option maxHeartbeats 20000000 in
theorem ok_rules_copied : GOk Try.prog 102 (lift k_rules_copied sp_rules_copied) := by
  refine pf_ok (T := T_rules_copied) (Γ := (108, lift k_slices_Clone_int_int sp_slices_Clone_int_int) :: []) tOk_rules_copied (gOks_cons ok_slices_Clone_int_int (gOks_nil _)) mixed Try.func102 (c := body Try.f102) (by kernel_rfl) (by kernel_rfl) k_rules_copied sp_rules_copied (by kernel_rfl) (by kernel_rfl) a_rules_copied ?_
  intro args hp s u hfit h
  unfold sp_rules_copied at h
  split at h
  · rename_i r_owner r_op o_r_weights r_weights
    obtain ⟨hvc, rfl, rfl⟩ := h.vc
    clear h hfit
    conv => whnf
    repeat' (first
      | (refine And.intro ?_ ?_ <;> try conv => whnf)
      | (intro hh; first | (cases hh; done) | conv => whnf))
    all_goals try first | rfl | kernel_rfl
    all_goals try simp only [decide_eq_true_eq, decide_eq_false_iff_not] at *
    all_goals try simp only [Key_eta, Share_eta, Journey_eta, Batch_eta, FieldT_eta, OpB_eta, Product_eta, Item_eta, Delta_eta, Elem_eta, Rule_eta, Do10_eta, Ask_eta, Key_beq, Share_beq, Journey_beq, FieldT_beq, Product_beq, Item_beq, Do10_beq, Ask_beq, toNat0, toNat1, toNat2, toNat3, toNat4, toNat5, toNat6, toNat7, toNat8, toNat9, toNat10, toNat11, toNat12, toNat13, toNat14, toNat15, toNat16, toNat17, toNat18, toNat19, iA, iOf, atS, rwA, castK, zK, true_and, and_true, decide_eq_true_eq, decide_eq_false_iff_not, beq_iff_eq, bne_iff_ne, beq_eq_false_iff_ne, bne_eq_false_iff_eq, Bool.not_eq_true', Bool.not_eq_false', Bool.not_eq_true, Bool.not_eq_false, Nat.succ_eq_add_one, Int.not_lt, Int.not_le, gt_iff_lt, ge_iff_le, show bytesS T_rules_copied 41 = 8 from rfl] at *
    all_goals first | exact Res.mk trivial | (refine Vc.mk ?_; omega)
  · exact h.fail.elim

def T_rules_right : TT := [(3, ⟨.int .i64, 1, 8, [.int .i64 0], some .int⟩),
  (4, ⟨.bool, 1, 1, [.bool false], some .bool⟩),
  (27, ⟨.int .i64, 1, 8, [.int .i64 0], some .int⟩),
  (41, ⟨.slice 3, 1, 24, [.slice none 0 0], none⟩),
  (88, ⟨.strct [(0, 3), (1, 3), (2, 41)], 3, 40, [.int .i64 0, .int .i64 0, .slice none 0 0], some .rule⟩)]
theorem tOk_rules_right : TOk Try.prog T_rules_right := tOk_of (by kernel_rfl)
def sp_rules_right : Spec := fun args hp => match args, hp with
  | [.agg [.val (.int .i64 r_owner), .val (.int .i64 r_op), .slF 0], .val (.int .i64 ops)], [(0, .row o_r_weights .int r_weights)] => .vc ((⟨r_owner, r_op, r_weights⟩ : Rule).weights.length ≤ 1048576 ∧ ∀ n ∈ (⟨r_owner, r_op, r_weights⟩ : Rule).weights, -9223372036854775808 ≤ n ∧ n ≤ 9223372036854775807) (bv (rightR (⟨r_owner, r_op, r_weights⟩ : Rule) ops)) []
  | _, _ => .fail "rules_right"
abbrev k_rules_right : List (Option RK) := [none, none]
def a_rules_right : List SV → List (Nat × VB) → Anns := fun _ _ => []
set_option maxHeartbeats 20000000 in
theorem ok_rules_right : GOk Try.prog 99 (lift k_rules_right sp_rules_right) := by
  refine pf_ok (T := T_rules_right) (Γ := (105, lift k_money_Split sp_money_Split) :: []) tOk_rules_right (gOks_cons ok_money_Split (gOks_nil _)) mixed Try.func99 (c := body Try.f99) (by kernel_rfl) (by kernel_rfl) k_rules_right sp_rules_right (by kernel_rfl) (by kernel_rfl) a_rules_right ?_
  intro args hp s u hfit h
  unfold sp_rules_right at h
  split at h
  · rename_i r_owner r_op ops o_r_weights r_weights
    obtain ⟨hvc, rfl, rfl⟩ := h.vc
    clear h hfit
    conv => whnf
    repeat' (first
      | (refine And.intro ?_ ?_ <;> try conv => whnf)
      | (intro hh; first | (cases hh; done) | conv => whnf))
    all_goals try first | rfl | kernel_rfl
    all_goals try simp only [decide_eq_true_eq, decide_eq_false_iff_not] at *
    all_goals try simp only [Key_eta, Share_eta, Journey_eta, Batch_eta, FieldT_eta, OpB_eta, Product_eta, Item_eta, Delta_eta, Elem_eta, Rule_eta, Do10_eta, Ask_eta, Key_beq, Share_beq, Journey_beq, FieldT_beq, Product_beq, Item_beq, Do10_beq, Ask_beq, toNat0, toNat1, toNat2, toNat3, toNat4, toNat5, toNat6, toNat7, toNat8, toNat9, toNat10, toNat11, toNat12, toNat13, toNat14, toNat15, toNat16, toNat17, toNat18, toNat19, iA, iOf, atS, rwA, castK, zK, true_and, and_true, decide_eq_true_eq, decide_eq_false_iff_not, beq_iff_eq, bne_iff_ne, beq_eq_false_iff_ne, bne_eq_false_iff_eq, Bool.not_eq_true', Bool.not_eq_false', Bool.not_eq_true, Bool.not_eq_false, Nat.succ_eq_add_one, Int.not_lt, Int.not_le, gt_iff_lt, ge_iff_le, show bytesS T_rules_right 41 = 8 from rfl] at *
    all_goals try (
      refine Res.mk (Eq.symm ?_)
      simp only [rightR]
      rw [Bool.and_eq_false_iff]
      left
      rw [decide_eq_false_iff_not]
      omega)
    · exact Vc.mk ⟨by omega, hvc.2⟩
    · refine Res.mk ?_
      have hz : (splitE 0 r_weights == 0) = rightM 0 r_weights := by
        unfold splitE
        split
        · rename_i h; rw [h]; rfl
        · rename_i h; rw [Bool.eq_false_iff.2 h]; rfl
      rw [hz, rightR_in (by omega)]
  · exact h.fail.elim

def T_rules_New : TT := [(3, ⟨.int .i64, 1, 8, [.int .i64 0], some .int⟩),
  (4, ⟨.bool, 1, 1, [.bool false], some .bool⟩),
  (27, ⟨.int .i64, 1, 8, [.int .i64 0], some .int⟩),
  (41, ⟨.slice 3, 1, 24, [.slice none 0 0], none⟩),
  (88, ⟨.strct [(0, 3), (1, 3), (2, 41)], 3, 40, [.int .i64 0, .int .i64 0, .slice none 0 0], some .rule⟩),
  (91, ⟨.ptr, 1, 8, [.pointer none], none⟩),
  (95, ⟨.slice 88, 1, 24, [.slice none 0 0], none⟩),
  (177, ⟨.strct [(0, 3), (1, 95)], 2, 32, [.int .i64 0, .slice none 0 0], none⟩)]
theorem tOk_rules_New : TOk Try.prog T_rules_New := tOk_of (by kernel_rfl)
def sp_rules_New : Spec := fun args hp => match args, hp with
  | [.val (.int .i64 ops)], [] => .br (decide (1 ≤ ops ∧ ops ≤ 4)) (.ok (.tup [.ptr 2000 0, iv 0]) [(2000, some (.cells [iv ops, .slF 2001])), (2001, some (.row true .rule []))]) (.ok (.tup [.val (.pointer none), iv 2]) [])
  | _, _ => .fail "rules_New"
abbrev k_rules_New : List (Option RK) := [none]
def a_rules_New : List SV → List (Nat × VB) → Anns := fun _ _ => []
set_option maxHeartbeats 20000000 in
theorem ok_rules_New : GOk Try.prog 42 (lift k_rules_New sp_rules_New) := by
  refine pf_ok (T := T_rules_New) (Γ := []) tOk_rules_New (gOks_nil _) mixed Try.func42 (c := body Try.f42) (by kernel_rfl) (by kernel_rfl) k_rules_New sp_rules_New (by kernel_rfl) (by kernel_rfl) a_rules_New ?_
  intro args hp s u hfit h
  unfold sp_rules_New at h
  split at h
  · rename_i ops
    rcases h.br with ⟨hbr, h⟩ | ⟨hbr, h⟩
    · obtain ⟨rfl, rfl⟩ := h.ok
      clear h hfit
      conv => whnf
      repeat' (first
        | (refine And.intro ?_ ?_ <;> try conv => whnf)
        | (intro hh; first | (cases hh; done) | conv => whnf))
      all_goals try first | rfl | kernel_rfl
      all_goals try simp only [decide_eq_true_eq, decide_eq_false_iff_not] at *
      all_goals try simp only [Key_eta, Share_eta, Journey_eta, Batch_eta, FieldT_eta, OpB_eta, Product_eta, Item_eta, Delta_eta, Elem_eta, Rule_eta, Do10_eta, Ask_eta, Key_beq, Share_beq, Journey_beq, FieldT_beq, Product_beq, Item_beq, Do10_beq, Ask_beq, toNat0, toNat1, toNat2, toNat3, toNat4, toNat5, toNat6, toNat7, toNat8, toNat9, toNat10, toNat11, toNat12, toNat13, toNat14, toNat15, toNat16, toNat17, toNat18, toNat19, iA, iOf, atS, rwA, castK, zK, true_and, and_true, decide_eq_true_eq, decide_eq_false_iff_not, beq_iff_eq, bne_iff_ne, beq_eq_false_iff_ne, bne_eq_false_iff_eq, Bool.not_eq_true', Bool.not_eq_false', Bool.not_eq_true, Bool.not_eq_false, Nat.succ_eq_add_one, Int.not_lt, Int.not_le, gt_iff_lt, ge_iff_le, show bytesS T_rules_New 41 = 8 from rfl, show bytesS T_rules_New 95 = 40 from rfl] at *
      all_goals first | exact Res.mk trivial | (exfalso; simp_all; try omega)
    · obtain ⟨rfl, rfl⟩ := h.ok
      clear h hfit
      conv => whnf
      repeat' (first
        | (refine And.intro ?_ ?_ <;> try conv => whnf)
        | (intro hh; first | (cases hh; done) | conv => whnf))
      all_goals try first | rfl | kernel_rfl
      all_goals try simp only [decide_eq_true_eq, decide_eq_false_iff_not] at *
      all_goals try simp only [Key_eta, Share_eta, Journey_eta, Batch_eta, FieldT_eta, OpB_eta, Product_eta, Item_eta, Delta_eta, Elem_eta, Rule_eta, Do10_eta, Ask_eta, Key_beq, Share_beq, Journey_beq, FieldT_beq, Product_beq, Item_beq, Do10_beq, Ask_beq, toNat0, toNat1, toNat2, toNat3, toNat4, toNat5, toNat6, toNat7, toNat8, toNat9, toNat10, toNat11, toNat12, toNat13, toNat14, toNat15, toNat16, toNat17, toNat18, toNat19, iA, iOf, atS, rwA, castK, zK, true_and, and_true, decide_eq_true_eq, decide_eq_false_iff_not, beq_iff_eq, bne_iff_ne, beq_eq_false_iff_ne, bne_eq_false_iff_eq, Bool.not_eq_true', Bool.not_eq_false', Bool.not_eq_true, Bool.not_eq_false, Nat.succ_eq_add_one, Int.not_lt, Int.not_le, gt_iff_lt, ge_iff_le, show bytesS T_rules_New 41 = 8 from rfl, show bytesS T_rules_New 95 = 40 from rfl] at *
      all_goals first | exact Res.mk trivial | (exfalso; simp_all; try omega)
  · exact h.fail.elim

def T_fareboxref21_Right : TT := [(3, ⟨.int .i64, 1, 8, [.int .i64 0], some .int⟩),
  (4, ⟨.bool, 1, 1, [.bool false], some .bool⟩),
  (41, ⟨.slice 3, 1, 24, [.slice none 0 0], none⟩),
  (88, ⟨.strct [(0, 3), (1, 3), (2, 41)], 3, 40, [.int .i64 0, .int .i64 0, .slice none 0 0], some .rule⟩)]
theorem tOk_fareboxref21_Right : TOk Try.prog T_fareboxref21_Right := tOk_of (by kernel_rfl)
def sp_fareboxref21_Right : Spec := fun args hp => match args, hp with
  | [.agg [.val (.int .i64 r_owner), .val (.int .i64 r_op), .slF 0], .val (.int .i64 ops)], [(0, .row o_r_weights .int r_weights)] => .vc (ops ≤ 16 ∧ (⟨r_owner, r_op, r_weights⟩ : Rule).weights.length ≤ 1048576 ∧ ∀ n ∈ (⟨r_owner, r_op, r_weights⟩ : Rule).weights, -9223372036854775808 ≤ n ∧ n ≤ 9223372036854775807) (bv (rightR (⟨r_owner, r_op, r_weights⟩ : Rule) ops)) []
  | _, _ => .fail "fareboxref21_Right"
abbrev k_fareboxref21_Right : List (Option RK) := [none, none]
def a_fareboxref21_Right : List SV → List (Nat × VB) → Anns := fun args hp => match args, hp with
  | [.agg [.val (.int .i64 r_owner), .val (.int .i64 r_op), .slF 0], .val (.int .i64 ops)], [(0, .row o_r_weights .int r_weights)] => [(5, fun S => .inv [] [] [] fun ids vs rs => { cars := [.i 6 .i64, .i 5 .i64], inv := fun ((i, s, _) : Int × Int × Unit) => IRt21 (⟨r_owner, r_op, r_weights⟩ : Rule).weights i s, mu := fun ((i, s, _) : Int × Int × Unit) => (⟨r_owner, r_op, r_weights⟩ : Rule).weights.length - i.toNat })]
  | _, _ => []
set_option maxHeartbeats 20000000 in
theorem ok_fareboxref21_Right : GOk Try.prog 46 (lift k_fareboxref21_Right sp_fareboxref21_Right) := by
  refine pf_ok (T := T_fareboxref21_Right) (Γ := []) tOk_fareboxref21_Right (gOks_nil _) mixed Try.func46 (c := body Try.f46) (by kernel_rfl) (by kernel_rfl) k_fareboxref21_Right sp_fareboxref21_Right (by kernel_rfl) (by kernel_rfl) a_fareboxref21_Right ?_
  intro args hp s u hfit h
  unfold sp_fareboxref21_Right at h
  split at h
  · rename_i r_owner r_op ops o_r_weights r_weights
    obtain ⟨hvc, rfl, rfl⟩ := h.vc
    clear h hfit
    conv => whnf
    repeat' (first
      | (refine And.intro ?_ ?_ <;> try conv => whnf)
      | (intro hh; first | (cases hh; done) | conv => whnf))
    all_goals try first | rfl | kernel_rfl
    all_goals try simp only [decide_eq_true_eq, decide_eq_false_iff_not] at *
    all_goals try simp only [Key_eta, Share_eta, Journey_eta, Batch_eta, FieldT_eta, OpB_eta, Product_eta, Item_eta, Delta_eta, Elem_eta, Rule_eta, Do10_eta, Ask_eta, Key_beq, Share_beq, Journey_beq, FieldT_beq, Product_beq, Item_beq, Do10_beq, Ask_beq, toNat0, toNat1, toNat2, toNat3, toNat4, toNat5, toNat6, toNat7, toNat8, toNat9, toNat10, toNat11, toNat12, toNat13, toNat14, toNat15, toNat16, toNat17, toNat18, toNat19, iA, iOf, atS, rwA, castK, zK, true_and, and_true, decide_eq_true_eq, decide_eq_false_iff_not, beq_iff_eq, bne_iff_ne, beq_eq_false_iff_ne, bne_eq_false_iff_eq, Bool.not_eq_true', Bool.not_eq_false', Bool.not_eq_true, Bool.not_eq_false, Nat.succ_eq_add_one, Int.not_lt, Int.not_le, gt_iff_lt, ge_iff_le, show bytesS T_fareboxref21_Right 41 = 8 from rfl] at *
    all_goals obtain ⟨hO, hL, hR⟩ := hvc
    all_goals try (
      refine Res.mk (Eq.symm ?_)
      simp only [rightR]
      rw [Bool.and_eq_false_iff]
      left
      rw [decide_eq_false_iff_not]
      omega)
    all_goals try (
      have hex := ‹IRt21 _ _ _›
      obtain ⟨j, hj, rfl, rfl, h1⟩ := hex)
    all_goals try simp only [Int.toNat_natCast] at *
    all_goals try (refine Vc.mk ?_; omega)
    · exact ⟨⟨0, Nat.zero_le _, rfl, rfl, by simp⟩⟩
    · refine Res.mk ?_
      rw [rightR, rightM_bd (j := j) (by simp only; omega) (by simp only; omega), Bool.and_false]
    · refine Res.mk ?_
      rw [rightR, rightM_bd (j := j) (by simp only; omega) (by simp only; omega), Bool.and_false]
    · have hs := sum_rng h1
      have hlt : j < r_weights.length := by omega
      rw [List.length_take] at hs
      have ht : r_weights.take (j + 1) = r_weights.take j ++ [r_weights.getD j 0] := take_getD hlt
      refine ⟨⟨j + 1, by omega, by rw [wrap64] <;> omega, ?_, fun x hx => ?_⟩, by rw [wrap64] <;> omega⟩
      · rw [ht, List.sum_append, List.sum_cons, List.sum_nil, Int.add_zero, wrap64 (by omega) (by omega)]
      · rw [ht, List.mem_append, List.mem_singleton] at hx
        rcases hx with hx | rfl
        · exact h1 x hx
        · omega
    · refine Res.mk ?_
      rw [List.take_of_length_le (by omega)] at h1 ⊢
      rw [rightR_in (by omega), rightM_sm h1 (by omega)]
  · exact h.fail.elim

def T_fareboxref21_Ints : TT := [(3, ⟨.int .i64, 1, 8, [.int .i64 0], some .int⟩),
  (4, ⟨.bool, 1, 1, [.bool false], some .bool⟩),
  (41, ⟨.slice 3, 1, 24, [.slice none 0 0], none⟩)]
theorem tOk_fareboxref21_Ints : TOk Try.prog T_fareboxref21_Ints := tOk_of (by kernel_rfl)
def sp_fareboxref21_Ints : Spec := fun args hp => match args, hp with
  | [.slF 0, .slF 1], [(0, .row o_a .int a), (1, .row o_b .int b)] => .vc (a.length ≤ 1099511627776 ∧ b.length ≤ 1099511627776) (bv (decide (a = b))) []
  | _, _ => .fail "fareboxref21_Ints"
abbrev k_fareboxref21_Ints : List (Option RK) := [some .int, some .int]
def a_fareboxref21_Ints : List SV → List (Nat × VB) → Anns := fun args hp => match args, hp with
  | [.slF 0, .slF 1], [(0, .row o_a .int a), (1, .row o_b .int b)] => [(4, fun S => .inv [] [] [] fun ids vs rs => { cars := [.i 5 .i64], inv := fun ((i, _) : Int × Unit) => eqS a b i, mu := fun ((i, _) : Int × Unit) => a.length - i.toNat })]
  | _, _ => []
set_option maxHeartbeats 20000000 in
theorem ok_fareboxref21_Ints : GOk Try.prog 51 (lift k_fareboxref21_Ints sp_fareboxref21_Ints) := by
  refine pf_ok (T := T_fareboxref21_Ints) (Γ := []) tOk_fareboxref21_Ints (gOks_nil _) mixed Try.func51 (c := body Try.f51) (by kernel_rfl) (by kernel_rfl) k_fareboxref21_Ints sp_fareboxref21_Ints (by kernel_rfl) (by kernel_rfl) a_fareboxref21_Ints ?_
  intro args hp s u hfit h
  unfold sp_fareboxref21_Ints at h
  split at h
  · rename_i o_a a o_b b
    obtain ⟨hvc, rfl, rfl⟩ := h.vc
    clear h hfit
    change List Int at a
    change List Int at b
    conv => whnf
    repeat' (first
      | (refine And.intro ?_ ?_ <;> try conv => whnf)
      | (intro hh; first | (cases hh; done) | conv => whnf))
    all_goals try first | rfl | kernel_rfl
    all_goals try simp only [decide_eq_true_eq, decide_eq_false_iff_not] at *
    all_goals try simp only [Key_eta, Share_eta, Journey_eta, Batch_eta, FieldT_eta, OpB_eta, Product_eta, Item_eta, Delta_eta, Elem_eta, Rule_eta, Do10_eta, Ask_eta, Key_beq, Share_beq, Journey_beq, FieldT_beq, Product_beq, Item_beq, Do10_beq, Ask_beq, toNat0, toNat1, toNat2, toNat3, toNat4, toNat5, toNat6, toNat7, toNat8, toNat9, toNat10, toNat11, toNat12, toNat13, toNat14, toNat15, toNat16, toNat17, toNat18, toNat19, iA, iOf, atS, rwA, castK, zK, true_and, and_true, decide_eq_true_eq, decide_eq_false_iff_not, beq_iff_eq, bne_iff_ne, beq_eq_false_iff_ne, bne_eq_false_iff_eq, Bool.not_eq_true', Bool.not_eq_false', Bool.not_eq_true, Bool.not_eq_false, Nat.succ_eq_add_one, Int.not_lt, Int.not_le, gt_iff_lt, ge_iff_le, show bytesS T_fareboxref21_Ints 41 = 8 from rfl] at *
    all_goals obtain ⟨hL, hL'⟩ := hvc
    all_goals try (
      have hex := ‹eqS _ _ _›
      obtain ⟨j, hj, rfl, hs⟩ := hex)
    all_goals try simp only [Int.toNat_natCast] at *
    all_goals try (refine Vc.mk ?_; omega)
    · exact Res.mk (by rw [eq_comm, decide_eq_false_iff_not]; intro h; subst h; exact absurd rfl ‹_›)
    · exact ⟨⟨0, Nat.zero_le _, rfl, rfl⟩⟩
    · refine Res.mk ?_
      rw [eq_comm, decide_eq_false_iff_not]
      intro h
      subst h
      exact absurd rfl ‹_›
    · have hlt : j < a.length := by omega
      refine ⟨⟨j + 1, by omega, by rw [wrap64] <;> omega, ?_⟩, by rw [wrap64] <;> omega⟩
      rw [take_getD (d := (0 : Int)) hlt, take_getD (d := (0 : Int)) (show j < b.length by omega), hs]
      congr 2
      (try assumption)
    · refine Res.mk ?_
      rw [eq_comm, decide_eq_true_eq]
      rw [List.take_of_length_le (by omega), List.take_of_length_le (by omega)] at hs
      exact hs
  · exact h.fail.elim

def T_fareboxref21_Shares : TT := [(3, ⟨.int .i64, 1, 8, [.int .i64 0], some .int⟩),
  (4, ⟨.bool, 1, 1, [.bool false], some .bool⟩),
  (97, ⟨.slice 101, 1, 24, [.slice none 0 0], none⟩),
  (101, ⟨.strct [(0, 3), (1, 3)], 2, 16, [.int .i64 0, .int .i64 0], some .share⟩)]
theorem tOk_fareboxref21_Shares : TOk Try.prog T_fareboxref21_Shares := tOk_of (by kernel_rfl)
def sp_fareboxref21_Shares : Spec := fun args hp => match args, hp with
  | [.slF 0, .slF 1], [(0, .row o_a .share a), (1, .row o_b .share b)] => .vc (a.length ≤ 1099511627776 ∧ b.length ≤ 1099511627776) (bv (decide (a = b))) []
  | _, _ => .fail "fareboxref21_Shares"
abbrev k_fareboxref21_Shares : List (Option RK) := [some .share, some .share]
def a_fareboxref21_Shares : List SV → List (Nat × VB) → Anns := fun args hp => match args, hp with
  | [.slF 0, .slF 1], [(0, .row o_a .share a), (1, .row o_b .share b)] => [(4, fun S => .inv [] [] [] fun ids vs rs => { cars := [.i 5 .i64], inv := fun ((i, _) : Int × Unit) => eqSh a b i, mu := fun ((i, _) : Int × Unit) => a.length - i.toNat })]
  | _, _ => []
set_option maxHeartbeats 20000000 in
theorem ok_fareboxref21_Shares : GOk Try.prog 50 (lift k_fareboxref21_Shares sp_fareboxref21_Shares) := by
  refine pf_ok (T := T_fareboxref21_Shares) (Γ := []) tOk_fareboxref21_Shares (gOks_nil _) mixed Try.func50 (c := body Try.f50) (by kernel_rfl) (by kernel_rfl) k_fareboxref21_Shares sp_fareboxref21_Shares (by kernel_rfl) (by kernel_rfl) a_fareboxref21_Shares ?_
  intro args hp s u hfit h
  unfold sp_fareboxref21_Shares at h
  split at h
  · rename_i o_a a o_b b
    obtain ⟨hvc, rfl, rfl⟩ := h.vc
    clear h hfit
    change List Share at a
    change List Share at b
    conv => whnf
    repeat' (first
      | (refine And.intro ?_ ?_ <;> try conv => whnf)
      | (intro hh; first | (cases hh; done) | conv => whnf))
    all_goals try first | rfl | kernel_rfl
    all_goals try simp only [decide_eq_true_eq, decide_eq_false_iff_not] at *
    all_goals try simp only [Key_eta, Share_eta, Journey_eta, Batch_eta, FieldT_eta, OpB_eta, Product_eta, Item_eta, Delta_eta, Elem_eta, Rule_eta, Do10_eta, Ask_eta, Key_beq, Share_beq, Journey_beq, FieldT_beq, Product_beq, Item_beq, Do10_beq, Ask_beq, toNat0, toNat1, toNat2, toNat3, toNat4, toNat5, toNat6, toNat7, toNat8, toNat9, toNat10, toNat11, toNat12, toNat13, toNat14, toNat15, toNat16, toNat17, toNat18, toNat19, iA, iOf, atS, rwA, castK, zK, true_and, and_true, decide_eq_true_eq, decide_eq_false_iff_not, beq_iff_eq, bne_iff_ne, beq_eq_false_iff_ne, bne_eq_false_iff_eq, Bool.not_eq_true', Bool.not_eq_false', Bool.not_eq_true, Bool.not_eq_false, Nat.succ_eq_add_one, Int.not_lt, Int.not_le, gt_iff_lt, ge_iff_le, show bytesS T_fareboxref21_Shares 97 = 16 from rfl] at *
    all_goals obtain ⟨hL, hL'⟩ := hvc
    all_goals try (
      have hex := ‹eqSh _ _ _›
      obtain ⟨j, hj, rfl, hs⟩ := hex)
    all_goals try simp only [Int.toNat_natCast] at *
    all_goals try (refine Vc.mk ?_; omega)
    · exact Res.mk (by rw [eq_comm, decide_eq_false_iff_not]; intro h; subst h; exact absurd rfl ‹_›)
    · exact ⟨⟨0, Nat.zero_le _, rfl, rfl⟩⟩
    · refine Res.mk ?_
      rw [eq_comm, decide_eq_false_iff_not]
      intro h
      subst h
      exact absurd rfl ‹_›
    · have hlt : j < a.length := by omega
      refine ⟨⟨j + 1, by omega, by rw [wrap64] <;> omega, ?_⟩, by rw [wrap64] <;> omega⟩
      rw [take_getD (d := (⟨0, 0⟩ : Share)) hlt, take_getD (d := (⟨0, 0⟩ : Share)) (show j < b.length by omega), hs]
      congr 2
      (try assumption)
    · refine Res.mk ?_
      rw [eq_comm, decide_eq_true_eq]
      rw [List.take_of_length_le (by omega), List.take_of_length_le (by omega)] at hs
      exact hs
  · exact h.fail.elim

def T_fareboxref21_For : TT := [(3, ⟨.int .i64, 1, 8, [.int .i64 0], some .int⟩),
  (4, ⟨.bool, 1, 1, [.bool false], some .bool⟩),
  (41, ⟨.slice 3, 1, 24, [.slice none 0 0], none⟩),
  (88, ⟨.strct [(0, 3), (1, 3), (2, 41)], 3, 40, [.int .i64 0, .int .i64 0, .slice none 0 0], some .rule⟩),
  (95, ⟨.slice 88, 1, 24, [.slice none 0 0], none⟩)]
theorem tOk_fareboxref21_For : TOk Try.prog T_fareboxref21_For := tOk_of (by kernel_rfl)
def sp_fareboxref21_For : Spec := fun args hp => match args, hp with
  | [.slF 0, .val (.int .i64 owner), .val (.int .i64 op)], [(0, .row o_l .rule l)] => .vc (l.length ≤ 1099511627776) (iv (lastR owner op l)) []
  | _, _ => .fail "fareboxref21_For"
abbrev k_fareboxref21_For : List (Option RK) := [some .rule, none, none]
def a_fareboxref21_For : List SV → List (Nat × VB) → Anns := fun args hp => match args, hp with
  | [.slF 0, .val (.int .i64 owner), .val (.int .i64 op)], [(0, .row o_l .rule l)] => [(2, fun S => .inv [] [] [] fun ids vs rs => { cars := [.i 7 .i64], inv := fun ((i, _) : Int × Unit) => ILa l owner op i, mu := fun ((i, _) : Int × Unit) => (i + 1).toNat })]
  | _, _ => []
set_option maxHeartbeats 20000000 in
theorem ok_fareboxref21_For : GOk Try.prog 49 (lift k_fareboxref21_For sp_fareboxref21_For) := by
  refine pf_ok (T := T_fareboxref21_For) (Γ := []) tOk_fareboxref21_For (gOks_nil _) mixed Try.func49 (c := body Try.f49) (by kernel_rfl) (by kernel_rfl) k_fareboxref21_For sp_fareboxref21_For (by kernel_rfl) (by kernel_rfl) a_fareboxref21_For ?_
  intro args hp s u hfit h
  unfold sp_fareboxref21_For at h
  split at h
  · rename_i owner op o_l l
    obtain ⟨hvc, rfl, rfl⟩ := h.vc
    clear h hfit
    change List Rule at l
    conv => whnf
    repeat' (first
      | (refine And.intro ?_ ?_ <;> try conv => whnf)
      | (intro hh; first | (cases hh; done) | conv => whnf))
    all_goals try first | rfl | kernel_rfl
    all_goals try simp only [decide_eq_true_eq, decide_eq_false_iff_not] at *
    all_goals try simp only [Key_eta, Share_eta, Journey_eta, Batch_eta, FieldT_eta, OpB_eta, Product_eta, Item_eta, Delta_eta, Elem_eta, Rule_eta, Do10_eta, Ask_eta, Key_beq, Share_beq, Journey_beq, FieldT_beq, Product_beq, Item_beq, Do10_beq, Ask_beq, toNat0, toNat1, toNat2, toNat3, toNat4, toNat5, toNat6, toNat7, toNat8, toNat9, toNat10, toNat11, toNat12, toNat13, toNat14, toNat15, toNat16, toNat17, toNat18, toNat19, iA, iOf, atS, rwA, castK, zK, true_and, and_true, decide_eq_true_eq, decide_eq_false_iff_not, beq_iff_eq, bne_iff_ne, beq_eq_false_iff_ne, bne_eq_false_iff_eq, Bool.not_eq_true', Bool.not_eq_false', Bool.not_eq_true, Bool.not_eq_false, Nat.succ_eq_add_one, Int.not_lt, Int.not_le, gt_iff_lt, ge_iff_le, show bytesS T_fareboxref21_For 41 = 8 from rfl, show bytesS T_fareboxref21_For 95 = 40 from rfl] at *
    all_goals try (
      have hex := ‹ILa _ _ _ _›
      obtain ⟨j, hj, rfl, h0⟩ := hex)
    all_goals try (refine Vc.mk ?_; omega)
    · exact ⟨⟨l.length, Nat.le_refl _, by rw [wrap64] <;> omega, fun c h1 h2 => by omega⟩⟩
    all_goals try (
      have hex : ∃ k, j = k + 1 := ⟨j - 1, by omega⟩
      obtain ⟨k, rfl⟩ := hex
      have hz : (((k + 1 : Nat) : Int) - 1).toNat = k := by omega
      simp only [hz] at *)
    · refine Res.mk ?_
      rw [lastR_at (k := k) (by omega) ⟨‹_›, ‹_›⟩ (fun c h1 h2 => h0 c (by omega) h2)]
      omega
    · refine ⟨⟨k, by omega, by rw [wrap64] <;> omega, fun c h1 h2 => ?_⟩, by rw [wrap64] <;> omega⟩
      by_cases e : c = k
      · subst e; intro h; exact absurd h.2 ‹_›
      · exact h0 c (by omega) h2
    · refine ⟨⟨k, by omega, by rw [wrap64] <;> omega, fun c h1 h2 => ?_⟩, by rw [wrap64] <;> omega⟩
      by_cases e : c = k
      · subst e; intro h; exact absurd h.1 ‹_›
      · exact h0 c (by omega) h2
    · refine Res.mk ?_
      rw [lastR_none (fun c hc => h0 c (by omega) hc)]
  · exact h.fail.elim

def T_fareboxlaw21_ride : TT := [(3, ⟨.int .i64, 1, 8, [.int .i64 0], some .int⟩),
  (56, ⟨.int .i64, 1, 8, [.int .i64 0], some .int⟩),
  (90, ⟨.strct [(0, 3), (1, 3), (2, 3), (3, 3), (4, 3), (5, 56), (6, 3), (7, 3), (8, 3), (9, 3)], 10, 80, [.int .i64 0, .int .i64 0, .int .i64 0, .int .i64 0, .int .i64 0, .int .i64 0, .int .i64 0, .int .i64 0, .int .i64 0, .int .i64 0], some .journey⟩)]
theorem tOk_fareboxlaw21_ride : TOk Try.prog T_fareboxlaw21_ride := tOk_of (by kernel_rfl)
def sp_fareboxlaw21_ride : Spec := fun args hp => match args, hp with
  | [], [] => .ok (svJourney ride21) []
  | _, _ => .fail "fareboxlaw21_ride"
abbrev k_fareboxlaw21_ride : List (Option RK) := []
def a_fareboxlaw21_ride : List SV → List (Nat × VB) → Anns := fun _ _ => []
set_option maxHeartbeats 20000000 in
theorem ok_fareboxlaw21_ride : GOk Try.prog 98 (lift k_fareboxlaw21_ride sp_fareboxlaw21_ride) := by
  refine pf_ok (T := T_fareboxlaw21_ride) (Γ := []) tOk_fareboxlaw21_ride (gOks_nil _) mixed Try.func98 (c := body Try.f98) (by kernel_rfl) (by kernel_rfl) k_fareboxlaw21_ride sp_fareboxlaw21_ride (by kernel_rfl) (by kernel_rfl) a_fareboxlaw21_ride ?_
  intro args hp s u hfit h
  unfold sp_fareboxlaw21_ride at h
  split at h
  · skip
    obtain ⟨rfl, rfl⟩ := h.ok
    clear h hfit
    conv => whnf
    repeat' (first
      | (refine And.intro ?_ ?_ <;> try conv => whnf)
      | (intro hh; first | (cases hh; done) | conv => whnf))
    all_goals try first | rfl | kernel_rfl
    all_goals try simp only [decide_eq_true_eq, decide_eq_false_iff_not] at *
    all_goals try simp only [Key_eta, Share_eta, Journey_eta, Batch_eta, FieldT_eta, OpB_eta, Product_eta, Item_eta, Delta_eta, Elem_eta, Rule_eta, Do10_eta, Ask_eta, Key_beq, Share_beq, Journey_beq, FieldT_beq, Product_beq, Item_beq, Do10_beq, Ask_beq, toNat0, toNat1, toNat2, toNat3, toNat4, toNat5, toNat6, toNat7, toNat8, toNat9, toNat10, toNat11, toNat12, toNat13, toNat14, toNat15, toNat16, toNat17, toNat18, toNat19, iA, iOf, atS, rwA, castK, zK, true_and, and_true, decide_eq_true_eq, decide_eq_false_iff_not, beq_iff_eq, bne_iff_ne, beq_eq_false_iff_ne, bne_eq_false_iff_eq, Bool.not_eq_true', Bool.not_eq_false', Bool.not_eq_true, Bool.not_eq_false, Nat.succ_eq_add_one, Int.not_lt, Int.not_le, gt_iff_lt, ge_iff_le] at *
    all_goals exact Res.mk (by simp [ride21])
  · exact h.fail.elim

def T_fareboxlaw21_copied : TT := [(3, ⟨.int .i64, 1, 8, [.int .i64 0], some .int⟩),
  (4, ⟨.bool, 1, 1, [.bool false], some .bool⟩),
  (41, ⟨.slice 3, 1, 24, [.slice none 0 0], none⟩),
  (88, ⟨.strct [(0, 3), (1, 3), (2, 41)], 3, 40, [.int .i64 0, .int .i64 0, .slice none 0 0], some .rule⟩),
  (95, ⟨.slice 88, 1, 24, [.slice none 0 0], none⟩)]
theorem tOk_fareboxlaw21_copied : TOk Try.prog T_fareboxlaw21_copied := tOk_of (by kernel_rfl)
def sp_fareboxlaw21_copied : Spec := fun args hp => match args, hp with
  | [.slF 0], [(0, .row o_l .rule l)] => .vc (l.length ≤ 1048576 ∧ ∀ r ∈ l, r.weights.length ≤ 1048576) (.slF 2000) [(2000, some (.row true .rule l))]
  | _, _ => .fail "fareboxlaw21_copied"
abbrev k_fareboxlaw21_copied : List (Option RK) := [some .rule]
def a_fareboxlaw21_copied : List SV → List (Nat × VB) → Anns := fun args hp => match args, hp with
  | [.slF 0], [(0, .row o_l .rule l)] => [(3, fun S => .inv [] [] [] fun ids vs rs => { cars := [.i 4 .i64, .r 3 true .rule], inv := fun ((i, out, _) : Int × List Rule × Unit) => ICp l i out, mu := fun ((i, out, _) : Int × List Rule × Unit) => l.length - i.toNat })]
  | _, _ => []
set_option maxHeartbeats 20000000 in
theorem ok_fareboxlaw21_copied : GOk Try.prog 44 (lift k_fareboxlaw21_copied sp_fareboxlaw21_copied) := by
  refine pf_ok (T := T_fareboxlaw21_copied) (Γ := []) tOk_fareboxlaw21_copied (gOks_nil _) mixed Try.func44 (c := body Try.f44) (by kernel_rfl) (by kernel_rfl) k_fareboxlaw21_copied sp_fareboxlaw21_copied (by kernel_rfl) (by kernel_rfl) a_fareboxlaw21_copied ?_
  intro args hp s u hfit h
  unfold sp_fareboxlaw21_copied at h
  split at h
  · rename_i o_l l
    obtain ⟨hvc, rfl, rfl⟩ := h.vc
    clear h hfit
    change List Rule at l
    conv => whnf
    repeat' (first
      | (refine And.intro ?_ ?_ <;> try conv => whnf)
      | (intro hh; first | (cases hh; done) | conv => whnf))
    all_goals try first | rfl | kernel_rfl
    all_goals try simp only [decide_eq_true_eq, decide_eq_false_iff_not] at *
    all_goals try simp only [Key_eta, Share_eta, Journey_eta, Batch_eta, FieldT_eta, OpB_eta, Product_eta, Item_eta, Delta_eta, Elem_eta, Rule_eta, Do10_eta, Ask_eta, Key_beq, Share_beq, Journey_beq, FieldT_beq, Product_beq, Item_beq, Do10_beq, Ask_beq, toNat0, toNat1, toNat2, toNat3, toNat4, toNat5, toNat6, toNat7, toNat8, toNat9, toNat10, toNat11, toNat12, toNat13, toNat14, toNat15, toNat16, toNat17, toNat18, toNat19, iA, iOf, atS, rwA, castK, zK, true_and, and_true, decide_eq_true_eq, decide_eq_false_iff_not, beq_iff_eq, bne_iff_ne, beq_eq_false_iff_ne, bne_eq_false_iff_eq, Bool.not_eq_true', Bool.not_eq_false', Bool.not_eq_true, Bool.not_eq_false, Nat.succ_eq_add_one, Int.not_lt, Int.not_le, gt_iff_lt, ge_iff_le, show bytesS T_fareboxlaw21_copied 41 = 8 from rfl, show bytesS T_fareboxlaw21_copied 95 = 40 from rfl] at *
    all_goals obtain ⟨hL, hW⟩ := hvc
    all_goals try (
      have hex := ‹ICp _ _ _›
      obtain ⟨j, hj, rfl, rfl⟩ := hex)
    all_goals try simp only [Int.toNat_natCast] at *
    all_goals try (
      have hw := hW _ (mem_getD (d := (⟨0, 0, []⟩ : Rule)) (show j < l.length by omega)))
    all_goals try (refine Vc.mk ?_; first | omega | (simp only [List.length_nil, List.length_cons, List.length_take]; omega))
    · exact ⟨⟨0, Nat.zero_le _, rfl, rfl⟩⟩
    · refine ⟨⟨j + 1, by omega, by rw [wrap64] <;> omega, ?_⟩, by rw [wrap64] <;> omega⟩
      rw [take_getD (d := (⟨0, 0, []⟩ : Rule)) (show j < l.length by omega)]
      rfl
    · refine Res.mk ?_
      rw [List.take_of_length_le (by omega)]
  · exact h.fail.elim

end Go.Proofs.Ythbmllekbbfobaa.Sx
