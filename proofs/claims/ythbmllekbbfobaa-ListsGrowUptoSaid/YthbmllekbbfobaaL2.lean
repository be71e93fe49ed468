import Derived.Test.YthbmllekbbfobaaProg
import Derived.Test.YthbmllekbbfobaaSxU
import Derived.IntWalk
import Derived.Test.YthbmllekbbfobaaL2r
/-! lists, Concat -/
namespace Go.Proofs.Ythbmllekbbfobaa.Sx
open Go
set_option linter.unusedVariables false
set_option linter.unusedSimpArgs false
set_option maxRecDepth 100000

def T_slices_Grow_api_Item_api_ItemP : TT := [(3, ⟨.int .i64, 1, 8, [.int .i64 0], some .int⟩),
  (4, ⟨.bool, 1, 1, [.bool false], some .bool⟩),
  (22, ⟨.slice 52, 1, 24, [.slice none 0 0], none⟩),
  (52, ⟨.strct [(0, 3), (1, 3), (2, 3), (3, 3), (4, 3)], 5, 40, [.int .i64 0, .int .i64 0, .int .i64 0, .int .i64 0, .int .i64 0], some .item⟩)]
theorem tOk_slices_Grow_api_Item_api_ItemP : TOk Try.prog T_slices_Grow_api_Item_api_ItemP := tOk_of (by kernel_rfl)
def sp_slices_Grow_api_Item_api_ItemP : Spec := fun args hp => match args, hp with
  | [.val (.slice none 0 0), .val (.int .i64 n)], [] => .br (decide (n = 0)) (.ok (.val (.slice none 0 0)) []) (.vc (0 < n ∧ n ≤ 2097152) (.slP 2000 0 0) [(2000, some (.row true .item (List.replicate n.toNat ⟨0, 0, 0, 0, 0⟩)))])
  | _, _ => .fail "slices_Grow_api_Item_api_ItemP"
abbrev k_slices_Grow_api_Item_api_ItemP : List (Option RK) := [none, none]
def a_slices_Grow_api_Item_api_ItemP : List SV → List (Nat × VB) → Anns := fun _ _ => []
set_option maxHeartbeats 20000000 in
theorem ok_slices_Grow_api_Item_api_ItemP : GOk Try.prog 110 (lift k_slices_Grow_api_Item_api_ItemP sp_slices_Grow_api_Item_api_ItemP) := by
  refine pf_ok (T := T_slices_Grow_api_Item_api_ItemP) (Γ := []) tOk_slices_Grow_api_Item_api_ItemP (gOks_nil _) mixed Try.func110 (c := body Try.f110) (by kernel_rfl) (by kernel_rfl) k_slices_Grow_api_Item_api_ItemP sp_slices_Grow_api_Item_api_ItemP (by kernel_rfl) (by kernel_rfl) a_slices_Grow_api_Item_api_ItemP ?_
  intro args hp s u hfit h
  unfold sp_slices_Grow_api_Item_api_ItemP at h
  split at h
  · rename_i n
    rcases h.br with ⟨hbr, h⟩ | ⟨hbr, h⟩
    · obtain ⟨rfl, rfl⟩ := h.ok
      clear h hfit
      conv => whnf
      repeat' (first
        | (refine And.intro ?_ ?_ <;> try conv => whnf)
        | (intro hh; first | (cases hh; done) | conv => whnf))
      all_goals try first | rfl | kernel_rfl
      all_goals try simp only [decide_eq_true_eq, decide_eq_false_iff_not] at *
      all_goals try simp only [Key_eta, Share_eta, Journey_eta, Batch_eta, FieldT_eta, OpB_eta, Product_eta, Item_eta, Delta_eta, Elem_eta, Rule_eta, Do10_eta, Ask_eta, Key_beq, Share_beq, Journey_beq, FieldT_beq, Product_beq, Item_beq, Do10_beq, Ask_beq, toNat0, toNat1, toNat2, toNat3, toNat4, toNat5, toNat6, toNat7, toNat8, toNat9, toNat10, toNat11, toNat12, toNat13, toNat14, toNat15, toNat16, toNat17, toNat18, toNat19, iA, iOf, atS, rwA, castK, zK, true_and, and_true, decide_eq_true_eq, decide_eq_false_iff_not, beq_iff_eq, bne_iff_ne, beq_eq_false_iff_ne, bne_eq_false_iff_eq, Bool.not_eq_true', Bool.not_eq_false', Bool.not_eq_true, Bool.not_eq_false, Nat.succ_eq_add_one, Int.not_lt, Int.not_le, gt_iff_lt, ge_iff_le, show bytesS T_slices_Grow_api_Item_api_ItemP 22 = 40 from rfl] at *
      all_goals subst hbr
      all_goals have hw : IntKind.i64.wrap (0 - IntKind.i64.wrap (0 - 0)) = 0 := by rw [wrap64 (n := 0 - 0) (by omega) (by omega), wrap64 (by omega) (by omega)]; omega
      all_goals try (exfalso; omega)
      all_goals exact Res.mk trivial
    · obtain ⟨hvc, rfl, rfl⟩ := h.vc
      clear h hfit
      conv => whnf
      repeat' (first
        | (refine And.intro ?_ ?_ <;> try conv => whnf)
        | (intro hh; first | (cases hh; done) | conv => whnf))
      all_goals try first | rfl | kernel_rfl
      all_goals try simp only [decide_eq_true_eq, decide_eq_false_iff_not] at *
      all_goals try simp only [Key_eta, Share_eta, Journey_eta, Batch_eta, FieldT_eta, OpB_eta, Product_eta, Item_eta, Delta_eta, Elem_eta, Rule_eta, Do10_eta, Ask_eta, Key_beq, Share_beq, Journey_beq, FieldT_beq, Product_beq, Item_beq, Do10_beq, Ask_beq, toNat0, toNat1, toNat2, toNat3, toNat4, toNat5, toNat6, toNat7, toNat8, toNat9, toNat10, toNat11, toNat12, toNat13, toNat14, toNat15, toNat16, toNat17, toNat18, toNat19, iA, iOf, atS, rwA, castK, zK, true_and, and_true, decide_eq_true_eq, decide_eq_false_iff_not, beq_iff_eq, bne_iff_ne, beq_eq_false_iff_ne, bne_eq_false_iff_eq, Bool.not_eq_true', Bool.not_eq_false', Bool.not_eq_true, Bool.not_eq_false, Nat.succ_eq_add_one, Int.not_lt, Int.not_le, gt_iff_lt, ge_iff_le, show bytesS T_slices_Grow_api_Item_api_ItemP 22 = 40 from rfl] at *
      all_goals have hw : IntKind.i64.wrap (n - IntKind.i64.wrap (0 - 0)) = n := by rw [wrap64 (n := 0 - 0) (by omega) (by omega), wrap64 (by omega) (by omega)]; omega
      all_goals try (exfalso; omega)
      all_goals try rw [hw]
      all_goals first | exact Vc.mk (by decide) | (refine Vc.mk ?_; omega) | (refine Vc.mk ?_; simp; done) | exact Res.mk rfl
  · exact h.fail.elim

def T_slices_Concat_api_Item_api_Item : TT := [(3, ⟨.int .i64, 1, 8, [.int .i64 0], some .int⟩),
  (4, ⟨.bool, 1, 1, [.bool false], some .bool⟩),
  (22, ⟨.slice 52, 1, 24, [.slice none 0 0], none⟩),
  (52, ⟨.strct [(0, 3), (1, 3), (2, 3), (3, 3), (4, 3)], 5, 40, [.int .i64 0, .int .i64 0, .int .i64 0, .int .i64 0, .int .i64 0], some .item⟩),
  (192, ⟨.slice 22, 1, 24, [.slice none 0 0], none⟩)]
theorem tOk_slices_Concat_api_Item_api_Item : TOk Try.prog T_slices_Concat_api_Item_api_Item := tOk_of (by kernel_rfl)
def sp_slices_Concat_api_Item_api_Item : Spec := fun args hp => match args, hp with
  | [.slC 0 2], [(0, .cells [.slF 1, .slF 2]), (1, .row o_x0 .item x0), (2, .row o_x1 .item x1)] => .vc (x0.length + x1.length ≤ 2097152) (.slP 2000 0 (x0.length + x1.length)) [(2000, some (.row true .item (x0 ++ x1)))]
  | _, _ => .fail "slices_Concat_api_Item_api_Item"
abbrev k_slices_Concat_api_Item_api_Item : List (Option RK) := [none]
def a_slices_Concat_api_Item_api_Item : List SV → List (Nat × VB) → Anns := fun args hp => match args, hp with
  | [.slC 0 2], [(0, .cells [.slF 1, .slF 2]), (1, .row o_x0 .item x0), (2, .row o_x1 .item x1)] => [(3, fun S => .unroll 3),
    (11, fun S => .unroll 3)]
  | _, _ => []
set_option maxHeartbeats 20000000 in
theorem ok_slices_Concat_api_Item_api_Item : GOk Try.prog 57 (lift k_slices_Concat_api_Item_api_Item sp_slices_Concat_api_Item_api_Item) := by
  refine pf_ok (T := T_slices_Concat_api_Item_api_Item) (Γ := (110, lift k_slices_Grow_api_Item_api_ItemP sp_slices_Grow_api_Item_api_ItemP) :: []) tOk_slices_Concat_api_Item_api_Item (gOks_cons ok_slices_Grow_api_Item_api_ItemP (gOks_nil _)) mixed Try.func57 (c := body Try.f57) (by kernel_rfl) (by kernel_rfl) k_slices_Concat_api_Item_api_Item sp_slices_Concat_api_Item_api_Item (by kernel_rfl) (by kernel_rfl) a_slices_Concat_api_Item_api_Item ?_
  intro args hp s u hfit h
  unfold sp_slices_Concat_api_Item_api_Item at h
  split at h
  · rename_i o_x0 x0 o_x1 x1
    obtain ⟨hvc, rfl, rfl⟩ := h.vc
    clear h hfit
    conv => whnf
    repeat' (first
      | (refine And.intro ?_ ?_ <;> try conv => whnf)
      | (intro hh; first | (cases hh; done) | conv => whnf))
    all_goals try first | rfl | kernel_rfl
    all_goals try simp only [decide_eq_true_eq, decide_eq_false_iff_not] at *
    all_goals try simp only [Key_eta, Share_eta, Journey_eta, Batch_eta, FieldT_eta, OpB_eta, Product_eta, Item_eta, Delta_eta, Elem_eta, Rule_eta, Do10_eta, Ask_eta, Key_beq, Share_beq, Journey_beq, FieldT_beq, Product_beq, Item_beq, Do10_beq, Ask_beq, toNat0, toNat1, toNat2, toNat3, toNat4, toNat5, toNat6, toNat7, toNat8, toNat9, toNat10, toNat11, toNat12, toNat13, toNat14, toNat15, toNat16, toNat17, toNat18, toNat19, iA, iOf, atS, rwA, castK, zK, true_and, and_true, decide_eq_true_eq, decide_eq_false_iff_not, beq_iff_eq, bne_iff_ne, beq_eq_false_iff_ne, bne_eq_false_iff_eq, Bool.not_eq_true', Bool.not_eq_false', Bool.not_eq_true, Bool.not_eq_false, Nat.succ_eq_add_one, Int.not_lt, Int.not_le, gt_iff_lt, ge_iff_le, show bytesS T_slices_Concat_api_Item_api_Item 22 = 40 from rfl, show bytesS T_slices_Concat_api_Item_api_Item 192 = 24 from rfl] at *
    all_goals have w1 : IntKind.i64.wrap (0 + (x0.length : Int)) = x0.length := by rw [wrap64 (by omega) (by omega)]; omega
    all_goals have w2 : IntKind.i64.wrap (IntKind.i64.wrap (0 + (x0.length : Int)) + x1.length) = x0.length + x1.length := by rw [w1, wrap64 (by omega) (by omega)]
    all_goals have w3 : IntKind.i64.wrap (0 + 1) = 1 := by decide
    all_goals have w4 : IntKind.i64.wrap (IntKind.i64.wrap (0 + 1) + 1) = 2 := by decide
    all_goals have w5 : ((x0.length : Int) + x1.length).toNat = x0.length + x1.length := by omega
    all_goals simp only [w1, w2, w3, w4, w5] at *
    all_goals try (exfalso; omega)
    all_goals try (refine Vc.mk ?_; first | omega | (simp only [List.nil_append, List.length_append, List.length_nil, List.length_replicate, splice_length']; omega) | rfl)
    all_goals refine Res.mk ?_
    all_goals first | (simp only [List.nil_append, List.length_append]; exact ⟨trivial, by omega⟩) | (rw [show (IntKind.i64.wrap ((x0.length : Int) + x1.length)).toNat = x0.length + x1.length from by rw [wrap64 (by omega) (by omega)]; omega]; exact ⟨splice_two, by omega⟩)
    
  · exact h.fail.elim

end Go.Proofs.Ythbmllekbbfobaa.Sx
