import Derived.Test.YthbmllekbbfobaaProg
import Derived.Test.YthbmllekbbfobaaSxU
import Derived.IntWalk
import Derived.Test.YthbmllekbbfobaaI5r
/-! ipe, Form -/
namespace Go.Proofs.Ythbmllekbbfobaa.Sx
open Go
set_option linter.unusedVariables false
set_option linter.unusedSimpArgs false
set_option maxRecDepth 100000

def T_tlv_Get : TT := [(3, ⟨.int .i64, 1, 8, [.int .i64 0], some .int⟩),
  (5, ⟨.int .u8, 1, 1, [.int .u8 0], some .u8⟩),
  (25, ⟨.slice 5, 1, 24, [.slice none 0 0], none⟩),
  (27, ⟨.int .i64, 1, 8, [.int .i64 0], some .int⟩),
  (158, ⟨.slice 160, 1, 24, [.slice none 0 0], none⟩),
  (160, ⟨.strct [(0, 3), (1, 25), (2, 158)], 3, 56, [.int .i64 0, .slice none 0 0, .slice none 0 0], some .elem⟩)]
theorem tOk_tlv_Get : TOk Try.prog T_tlv_Get := tOk_of (by kernel_rfl)
def sp_tlv_Get : Spec := fun args hp => match args, hp with
  | [.slF 0], [(0, .row o_b .u8 b)] => .vc (isB b ∧ b.length ≤ 1048576) (.tup [.slF 2000, iv (getP 4 b).2]) [(2000, some (.row true .elem (getP 4 b).1))]
  | [.slP 0 b_i b_n], [(0, .row o_b .u8 b)] => .vc (isB ((b.drop b_i).take b_n) ∧ ((b.drop b_i).take b_n).length ≤ 1048576) (.tup [.slF 2000, iv (getP 4 ((b.drop b_i).take b_n)).2]) [(2000, some (.row true .elem (getP 4 ((b.drop b_i).take b_n)).1))]
  | _, _ => .fail "tlv_Get"
abbrev k_tlv_Get : List (Option RK) := [some .u8]
def a_tlv_Get : List SV → List (Nat × VB) → Anns := fun _ _ => []
set_option maxHeartbeats 20000000 in
theorem ok_tlv_Get : GOk Try.prog 116 (lift k_tlv_Get sp_tlv_Get) := by
  refine pf_ok (T := T_tlv_Get) (Γ := (147, lift k_tlv_getS4 sp_tlv_getS4) :: []) tOk_tlv_Get (gOks_cons ok_tlv_getS4 (gOks_nil _)) mixed Try.func116 (c := body Try.f116) (by kernel_rfl) (by kernel_rfl) k_tlv_Get sp_tlv_Get (by kernel_rfl) (by kernel_rfl) a_tlv_Get ?_
  intro args hp s u hfit h
  unfold sp_tlv_Get at h
  split at h
  · rename_i o_b b
    obtain ⟨hvc, rfl, rfl⟩ := h.vc
    clear h hfit
    change List Int at b
    conv => whnf
    repeat' (first
      | (refine And.intro ?_ ?_ <;> try conv => whnf)
      | (intro hh; first | (cases hh; done) | conv => whnf))
    all_goals try first | rfl | kernel_rfl
    all_goals try simp only [decide_eq_true_eq, decide_eq_false_iff_not] at *
    all_goals try simp only [Key_eta, Share_eta, Journey_eta, Batch_eta, FieldT_eta, OpB_eta, Product_eta, Item_eta, Delta_eta, Elem_eta, Rule_eta, Do10_eta, Key_beq, Share_beq, Journey_beq, FieldT_beq, Product_beq, Item_beq, Do10_beq, toNat0, toNat1, toNat2, toNat3, toNat4, toNat5, toNat6, toNat7, toNat8, toNat9, toNat10, toNat11, toNat12, toNat13, toNat14, toNat15, toNat16, toNat17, toNat18, toNat19, iA, iOf, atS, rwA, castK, zK, true_and, and_true, decide_eq_true_eq, decide_eq_false_iff_not, beq_iff_eq, bne_iff_ne, beq_eq_false_iff_ne, bne_eq_false_iff_eq, Bool.not_eq_true', Bool.not_eq_false', Bool.not_eq_true, Bool.not_eq_false, Nat.succ_eq_add_one, Int.not_lt, Int.not_le, gt_iff_lt, ge_iff_le, show bytesS T_tlv_Get 25 = 1 from rfl, show bytesS T_tlv_Get 158 = 56 from rfl] at *
    all_goals first | exact Vc.mk hvc | exact Res.mk trivial
  · rename_i b_i b_n o_b b
    obtain ⟨hvc, rfl, rfl⟩ := h.vc
    clear h
    change List Int at b
    conv => whnf
    repeat' (first
      | (refine And.intro ?_ ?_ <;> try conv => whnf)
      | (intro hh; first | (cases hh; done) | conv => whnf))
    all_goals try first | rfl | kernel_rfl
    all_goals try simp only [decide_eq_true_eq, decide_eq_false_iff_not] at *
    all_goals try simp only [Key_eta, Share_eta, Journey_eta, Batch_eta, FieldT_eta, OpB_eta, Product_eta, Item_eta, Delta_eta, Elem_eta, Rule_eta, Do10_eta, Key_beq, Share_beq, Journey_beq, FieldT_beq, Product_beq, Item_beq, Do10_beq, toNat0, toNat1, toNat2, toNat3, toNat4, toNat5, toNat6, toNat7, toNat8, toNat9, toNat10, toNat11, toNat12, toNat13, toNat14, toNat15, toNat16, toNat17, toNat18, toNat19, iA, iOf, atS, rwA, castK, zK, true_and, and_true, decide_eq_true_eq, decide_eq_false_iff_not, beq_iff_eq, bne_iff_ne, beq_eq_false_iff_ne, bne_eq_false_iff_eq, Bool.not_eq_true', Bool.not_eq_false', Bool.not_eq_true, Bool.not_eq_false, Nat.succ_eq_add_one, Int.not_lt, Int.not_le, gt_iff_lt, ge_iff_le, show bytesS T_tlv_Get 25 = 1 from rfl, show bytesS T_tlv_Get 158 = 56 from rfl] at *
    all_goals first | exact Vc.mk hvc | exact Res.mk trivial
  · exact h.fail.elim

def T_ipe_Right_1 : TT := [(3, ⟨.int .i64, 1, 8, [.int .i64 0], some .int⟩),
  (4, ⟨.bool, 1, 1, [.bool false], some .bool⟩),
  (41, ⟨.slice 3, 1, 24, [.slice none 0 0], none⟩),
  (56, ⟨.int .i64, 1, 8, [.int .i64 0], some .int⟩),
  (58, ⟨.strct [(0, 56), (1, 3), (2, 3), (3, 3), (4, 3), (5, 3), (6, 3), (7, 3), (8, 4), (9, 3), (10, 3), (11, 3), (12, 3), (13, 4)], 14, 112, [.int .i64 0, .int .i64 0, .int .i64 0, .int .i64 0, .int .i64 0, .int .i64 0, .int .i64 0, .int .i64 0, .bool false, .int .i64 0, .int .i64 0, .int .i64 0, .int .i64 0, .bool false], some .product⟩)]
theorem tOk_ipe_Right_1 : TOk Try.prog T_ipe_Right_1 := tOk_of (by kernel_rfl)
def sp_ipe_Right_1 : Spec := fun args hp => match args, hp with
  | [.agg p_cs], [] => (match decS .product p_cs with
    | some p => .ok (bv (!rightP p)) []
    | none => .fail "struct")
  | _, _ => .fail "ipe_Right_1"
abbrev k_ipe_Right_1 : List (Option RK) := [none]
def a_ipe_Right_1 : List SV → List (Nat × VB) → Anns := fun _ _ => []
set_option maxHeartbeats 20000000 in
theorem ok_ipe_Right_1 : GOk Try.prog 86 (lift k_ipe_Right_1 sp_ipe_Right_1) := by
  refine pf_ok (T := T_ipe_Right_1) (Γ := (80, lift k_ipe_numbers sp_ipe_numbers) :: []) tOk_ipe_Right_1 (gOks_cons ok_ipe_numbers (gOks_nil _)) mixed Try.func86 (c := body Try.f86) (by kernel_rfl) (by kernel_rfl) k_ipe_Right_1 sp_ipe_Right_1 (by kernel_rfl) (by kernel_rfl) a_ipe_Right_1 ?_
  intro args hp s u hfit h
  unfold sp_ipe_Right_1 at h
  split at h
  · rename_i p_cs
    split at h
    case h_2 => exact h.fail.elim
    rename_i p h_p
    obtain rfl := decS_ok (k := .product) rfl h_p
    clear h_p
    change Product at p
    obtain ⟨rfl, rfl⟩ := h.ok
    clear h hfit
    conv => whnf
    repeat' (first
      | (refine And.intro ?_ ?_ <;> try conv => whnf)
      | (intro hh; first | (cases hh; done) | conv => whnf))
    all_goals try first | rfl | kernel_rfl
    all_goals try simp only [decide_eq_true_eq, decide_eq_false_iff_not] at *
    all_goals try simp only [Key_eta, Share_eta, Journey_eta, Batch_eta, FieldT_eta, OpB_eta, Product_eta, Item_eta, Delta_eta, Elem_eta, Rule_eta, Do10_eta, Key_beq, Share_beq, Journey_beq, FieldT_beq, Product_beq, Item_beq, Do10_beq, toNat0, toNat1, toNat2, toNat3, toNat4, toNat5, toNat6, toNat7, toNat8, toNat9, toNat10, toNat11, toNat12, toNat13, toNat14, toNat15, toNat16, toNat17, toNat18, toNat19, iA, iOf, atS, rwA, castK, zK, true_and, and_true, decide_eq_true_eq, decide_eq_false_iff_not, beq_iff_eq, bne_iff_ne, beq_eq_false_iff_ne, bne_eq_false_iff_eq, Bool.not_eq_true', Bool.not_eq_false', Bool.not_eq_true, Bool.not_eq_false, Nat.succ_eq_add_one, Int.not_lt, Int.not_le, gt_iff_lt, ge_iff_le, show bytesS T_ipe_Right_1 41 = 8 from rfl] at *
    all_goals first | exact Res.mk trivial | exact Res.mk rfl
  · exact h.fail.elim

def T_slices_IndexFunc_api_Product_api_Product : TT := [(3, ⟨.int .i64, 1, 8, [.int .i64 0], some .int⟩),
  (4, ⟨.bool, 1, 1, [.bool false], some .bool⟩),
  (56, ⟨.int .i64, 1, 8, [.int .i64 0], some .int⟩),
  (58, ⟨.strct [(0, 56), (1, 3), (2, 3), (3, 3), (4, 3), (5, 3), (6, 3), (7, 3), (8, 4), (9, 3), (10, 3), (11, 3), (12, 3), (13, 4)], 14, 112, [.int .i64 0, .int .i64 0, .int .i64 0, .int .i64 0, .int .i64 0, .int .i64 0, .int .i64 0, .int .i64 0, .bool false, .int .i64 0, .int .i64 0, .int .i64 0, .int .i64 0, .bool false], some .product⟩),
  (62, ⟨.other, 1, 8, [.nilFunc], none⟩),
  (164, ⟨.slice 58, 1, 24, [.slice none 0 0], none⟩)]
theorem tOk_slices_IndexFunc_api_Product_api_Product : TOk Try.prog T_slices_IndexFunc_api_Product_api_Product := tOk_of (by kernel_rfl)
def sp_slices_IndexFunc_api_Product_api_Product : Spec := fun args hp => match args, hp with
  | [.slF 0, .fn (.func 86) [] []], [(0, .row o_ps .product ps)] => .vc (ps.length ≤ 1048576) (iv (idxP notR ps 0)) []
  | _, _ => .fail "slices_IndexFunc_api_Product_api_Product"
abbrev k_slices_IndexFunc_api_Product_api_Product : List (Option RK) := [some .product, none]
def a_slices_IndexFunc_api_Product_api_Product : List SV → List (Nat × VB) → Anns := fun args hp => match args, hp with
  | [.slF 0, .fn (.func 86) [] []], [(0, .row o_ps .product ps)] => [(2, fun S => .inv [] [] [] fun ids vs rs => { cars := [.i 8 .i64], inv := fun ((i, _) : Int × Unit) => IAny notR ps i, mu := fun ((i, _) : Int × Unit) => ps.length - i.toNat })]
  | _, _ => []
set_option maxHeartbeats 20000000 in
theorem ok_slices_IndexFunc_api_Product_api_Product : GOk Try.prog 130 (lift k_slices_IndexFunc_api_Product_api_Product sp_slices_IndexFunc_api_Product_api_Product) := by
  refine pf_ok (T := T_slices_IndexFunc_api_Product_api_Product) (Γ := (86, lift k_ipe_Right_1 sp_ipe_Right_1) :: []) tOk_slices_IndexFunc_api_Product_api_Product (gOks_cons ok_ipe_Right_1 (gOks_nil _)) mixed Try.func130 (c := body Try.f130) (by kernel_rfl) (by kernel_rfl) k_slices_IndexFunc_api_Product_api_Product sp_slices_IndexFunc_api_Product_api_Product (by kernel_rfl) (by kernel_rfl) a_slices_IndexFunc_api_Product_api_Product ?_
  intro args hp s u hfit h
  unfold sp_slices_IndexFunc_api_Product_api_Product at h
  split at h
  · rename_i o_ps ps
    obtain ⟨hvc, rfl, rfl⟩ := h.vc
    clear h hfit
    change List Product at ps
    conv => whnf
    repeat' (first
      | (refine And.intro ?_ ?_ <;> try conv => whnf)
      | (intro hh; first | (cases hh; done) | conv => whnf))
    all_goals try first | rfl | kernel_rfl
    all_goals try simp only [decide_eq_true_eq, decide_eq_false_iff_not] at *
    all_goals try simp only [Key_eta, Share_eta, Journey_eta, Batch_eta, FieldT_eta, OpB_eta, Product_eta, Item_eta, Delta_eta, Elem_eta, Rule_eta, Do10_eta, Key_beq, Share_beq, Journey_beq, FieldT_beq, Product_beq, Item_beq, Do10_beq, toNat0, toNat1, toNat2, toNat3, toNat4, toNat5, toNat6, toNat7, toNat8, toNat9, toNat10, toNat11, toNat12, toNat13, toNat14, toNat15, toNat16, toNat17, toNat18, toNat19, iA, iOf, atS, rwA, castK, zK, true_and, and_true, decide_eq_true_eq, decide_eq_false_iff_not, beq_iff_eq, bne_iff_ne, beq_eq_false_iff_ne, bne_eq_false_iff_eq, Bool.not_eq_true', Bool.not_eq_false', Bool.not_eq_true, Bool.not_eq_false, Nat.succ_eq_add_one, Int.not_lt, Int.not_le, gt_iff_lt, ge_iff_le, show bytesS T_slices_IndexFunc_api_Product_api_Product 164 = 112 from rfl] at *
    all_goals try (obtain ⟨j, hj, rfl, hb⟩ := ‹IAny _ _ _›)
    all_goals try (refine Vc.mk ?_; omega)
    · exact ⟨⟨0, Nat.zero_le _, rfl, rfl⟩⟩
    · refine Res.mk ?_
      rw [idxP_at (d := zP) hb (by omega) (by rw [notR, ‹rightP _ = false›]; rfl)]; omega
    · refine ⟨⟨j + 1, by omega, by rw [wrap64] <;> omega, ?_⟩, by rw [wrap64] <;> omega⟩
      rw [take_getD (d := zP) (by omega), any_snoc, hb, show notR (ps.getD j zP) = false by rw [notR, ‹rightP _ = true›]; rfl]; rfl
    · refine Res.mk ?_
      rw [idxP_none]
      rw [← List.take_length (l := ps), show ps.length = j by omega]; exact hb
  · exact h.fail.elim

def T_slices_ContainsFunc_api_Product_api_Product : TT := [(3, ⟨.int .i64, 1, 8, [.int .i64 0], some .int⟩),
  (4, ⟨.bool, 1, 1, [.bool false], some .bool⟩),
  (56, ⟨.int .i64, 1, 8, [.int .i64 0], some .int⟩),
  (58, ⟨.strct [(0, 56), (1, 3), (2, 3), (3, 3), (4, 3), (5, 3), (6, 3), (7, 3), (8, 4), (9, 3), (10, 3), (11, 3), (12, 3), (13, 4)], 14, 112, [.int .i64 0, .int .i64 0, .int .i64 0, .int .i64 0, .int .i64 0, .int .i64 0, .int .i64 0, .int .i64 0, .bool false, .int .i64 0, .int .i64 0, .int .i64 0, .int .i64 0, .bool false], some .product⟩),
  (62, ⟨.other, 1, 8, [.nilFunc], none⟩),
  (164, ⟨.slice 58, 1, 24, [.slice none 0 0], none⟩)]
theorem tOk_slices_ContainsFunc_api_Product_api_Product : TOk Try.prog T_slices_ContainsFunc_api_Product_api_Product := tOk_of (by kernel_rfl)
def sp_slices_ContainsFunc_api_Product_api_Product : Spec := fun args hp => match args, hp with
  | [.slF 0, .fn (.func 86) [] []], [(0, .row o_ps .product ps)] => .vc (ps.length ≤ 1048576) (bv (!ps.all rightP)) []
  | _, _ => .fail "slices_ContainsFunc_api_Product_api_Product"
abbrev k_slices_ContainsFunc_api_Product_api_Product : List (Option RK) := [some .product, none]
def a_slices_ContainsFunc_api_Product_api_Product : List SV → List (Nat × VB) → Anns := fun _ _ => []
set_option maxHeartbeats 20000000 in
theorem ok_slices_ContainsFunc_api_Product_api_Product : GOk Try.prog 85 (lift k_slices_ContainsFunc_api_Product_api_Product sp_slices_ContainsFunc_api_Product_api_Product) := by
  refine pf_ok (T := T_slices_ContainsFunc_api_Product_api_Product) (Γ := (130, lift k_slices_IndexFunc_api_Product_api_Product sp_slices_IndexFunc_api_Product_api_Product) :: []) tOk_slices_ContainsFunc_api_Product_api_Product (gOks_cons ok_slices_IndexFunc_api_Product_api_Product (gOks_nil _)) mixed Try.func85 (c := body Try.f85) (by kernel_rfl) (by kernel_rfl) k_slices_ContainsFunc_api_Product_api_Product sp_slices_ContainsFunc_api_Product_api_Product (by kernel_rfl) (by kernel_rfl) a_slices_ContainsFunc_api_Product_api_Product ?_
  intro args hp s u hfit h
  unfold sp_slices_ContainsFunc_api_Product_api_Product at h
  split at h
  · rename_i o_ps ps
    obtain ⟨hvc, rfl, rfl⟩ := h.vc
    clear h hfit
    change List Product at ps
    conv => whnf
    repeat' (first
      | (refine And.intro ?_ ?_ <;> try conv => whnf)
      | (intro hh; first | (cases hh; done) | conv => whnf))
    all_goals try first | rfl | kernel_rfl
    all_goals try simp only [decide_eq_true_eq, decide_eq_false_iff_not] at *
    all_goals try simp only [Key_eta, Share_eta, Journey_eta, Batch_eta, FieldT_eta, OpB_eta, Product_eta, Item_eta, Delta_eta, Elem_eta, Rule_eta, Do10_eta, Key_beq, Share_beq, Journey_beq, FieldT_beq, Product_beq, Item_beq, Do10_beq, toNat0, toNat1, toNat2, toNat3, toNat4, toNat5, toNat6, toNat7, toNat8, toNat9, toNat10, toNat11, toNat12, toNat13, toNat14, toNat15, toNat16, toNat17, toNat18, toNat19, iA, iOf, atS, rwA, castK, zK, true_and, and_true, decide_eq_true_eq, decide_eq_false_iff_not, beq_iff_eq, bne_iff_ne, beq_eq_false_iff_ne, bne_eq_false_iff_eq, Bool.not_eq_true', Bool.not_eq_false', Bool.not_eq_true, Bool.not_eq_false, Nat.succ_eq_add_one, Int.not_lt, Int.not_le, gt_iff_lt, ge_iff_le, show bytesS T_slices_ContainsFunc_api_Product_api_Product 164 = 112 from rfl] at *
    all_goals first | exact Vc.mk hvc | (refine Res.mk ?_; rw [idxP_any (by decide), any_notR])
  · exact h.fail.elim

def T_ipe_Right : TT := [(3, ⟨.int .i64, 1, 8, [.int .i64 0], some .int⟩),
  (4, ⟨.bool, 1, 1, [.bool false], some .bool⟩),
  (56, ⟨.int .i64, 1, 8, [.int .i64 0], some .int⟩),
  (58, ⟨.strct [(0, 56), (1, 3), (2, 3), (3, 3), (4, 3), (5, 3), (6, 3), (7, 3), (8, 4), (9, 3), (10, 3), (11, 3), (12, 3), (13, 4)], 14, 112, [.int .i64 0, .int .i64 0, .int .i64 0, .int .i64 0, .int .i64 0, .int .i64 0, .int .i64 0, .int .i64 0, .bool false, .int .i64 0, .int .i64 0, .int .i64 0, .int .i64 0, .bool false], some .product⟩),
  (62, ⟨.other, 1, 8, [.nilFunc], none⟩),
  (164, ⟨.slice 58, 1, 24, [.slice none 0 0], none⟩)]
theorem tOk_ipe_Right : TOk Try.prog T_ipe_Right := tOk_of (by kernel_rfl)
def sp_ipe_Right : Spec := fun args hp => match args, hp with
  | [.slF 0], [(0, .row o_ps .product ps)] => .vc (ps.length ≤ 1048576) (bv (ps.all rightP)) []
  | _, _ => .fail "ipe_Right"
abbrev k_ipe_Right : List (Option RK) := [some .product]
def a_ipe_Right : List SV → List (Nat × VB) → Anns := fun _ _ => []
set_option maxHeartbeats 20000000 in
theorem ok_ipe_Right : GOk Try.prog 30 (lift k_ipe_Right sp_ipe_Right) := by
  refine pf_ok (T := T_ipe_Right) (Γ := (85, lift k_slices_ContainsFunc_api_Product_api_Product sp_slices_ContainsFunc_api_Product_api_Product) :: []) tOk_ipe_Right (gOks_cons ok_slices_ContainsFunc_api_Product_api_Product (gOks_nil _)) mixed Try.func30 (c := body Try.f30) (by kernel_rfl) (by kernel_rfl) k_ipe_Right sp_ipe_Right (by kernel_rfl) (by kernel_rfl) a_ipe_Right ?_
  intro args hp s u hfit h
  unfold sp_ipe_Right at h
  split at h
  · rename_i o_ps ps
    obtain ⟨hvc, rfl, rfl⟩ := h.vc
    clear h hfit
    change List Product at ps
    conv => whnf
    repeat' (first
      | (refine And.intro ?_ ?_ <;> try conv => whnf)
      | (intro hh; first | (cases hh; done) | conv => whnf))
    all_goals try first | rfl | kernel_rfl
    all_goals try simp only [decide_eq_true_eq, decide_eq_false_iff_not] at *
    all_goals try simp only [Key_eta, Share_eta, Journey_eta, Batch_eta, FieldT_eta, OpB_eta, Product_eta, Item_eta, Delta_eta, Elem_eta, Rule_eta, Do10_eta, Key_beq, Share_beq, Journey_beq, FieldT_beq, Product_beq, Item_beq, Do10_beq, toNat0, toNat1, toNat2, toNat3, toNat4, toNat5, toNat6, toNat7, toNat8, toNat9, toNat10, toNat11, toNat12, toNat13, toNat14, toNat15, toNat16, toNat17, toNat18, toNat19, iA, iOf, atS, rwA, castK, zK, true_and, and_true, decide_eq_true_eq, decide_eq_false_iff_not, beq_iff_eq, bne_iff_ne, beq_eq_false_iff_ne, bne_eq_false_iff_eq, Bool.not_eq_true', Bool.not_eq_false', Bool.not_eq_true, Bool.not_eq_false, Nat.succ_eq_add_one, Int.not_lt, Int.not_le, gt_iff_lt, ge_iff_le, show bytesS T_ipe_Right 164 = 112 from rfl] at *
    all_goals first | exact Vc.mk hvc | (refine Res.mk ?_; rw [Bool.not_not])
  · exact h.fail.elim

end Go.Proofs.Ythbmllekbbfobaa.Sx
