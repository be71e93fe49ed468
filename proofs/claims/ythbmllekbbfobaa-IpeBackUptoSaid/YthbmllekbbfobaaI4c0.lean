import Derived.Test.YthbmllekbbfobaaProg
import Derived.Test.YthbmllekbbfobaaSxU
import Derived.IntWalk
import Derived.Test.YthbmllekbbfobaaI4r
/-! tlv, Put -/
namespace Go.Proofs.Ythbmllekbbfobaa.Sx
open Go
set_option linter.unusedVariables false
set_option linter.unusedSimpArgs false
set_option maxRecDepth 100000

def T_slices_IndexFunc_api_Elem_api_ElemD0 : TT := [(3, ⟨.int .i64, 1, 8, [.int .i64 0], some .int⟩),
  (4, ⟨.bool, 1, 1, [.bool false], some .bool⟩),
  (5, ⟨.int .u8, 1, 1, [.int .u8 0], some .u8⟩),
  (25, ⟨.slice 5, 1, 24, [.slice none 0 0], none⟩),
  (158, ⟨.slice 160, 1, 24, [.slice none 0 0], none⟩),
  (160, ⟨.strct [(0, 3), (1, 25), (2, 158)], 3, 56, [.int .i64 0, .slice none 0 0, .slice none 0 0], some .elem⟩),
  (245, ⟨.other, 1, 8, [.nilFunc], none⟩)]
theorem tOk_slices_IndexFunc_api_Elem_api_ElemD0 : TOk Try.prog T_slices_IndexFunc_api_Elem_api_ElemD0 := tOk_of (by kernel_rfl)
def sp_slices_IndexFunc_api_Elem_api_ElemD0 : Spec := fun args hp => match args, hp with
  | [.slF 0, .fn (.func 150) [] [.ptr 1 0]], [(0, .row o_es .elem es), (1, .cells [.val (.int .i64 c_v)])] => .vc (hE 0 es ∧ lE 0 es ∧ 0 ≤ c_v ∧ c_v + 0 ≤ 4) (iv (-1)) []
  | _, _ => .fail "slices_IndexFunc_api_Elem_api_ElemD0"
abbrev k_slices_IndexFunc_api_Elem_api_ElemD0 : List (Option RK) := [some .elem, none]
def a_slices_IndexFunc_api_Elem_api_ElemD0 : List SV → List (Nat × VB) → Anns := fun args hp => match args, hp with
  | [.slF 0, .fn (.func 150) [] [.ptr 1 0]], [(0, .row o_es .elem es), (1, .cells [.val (.int .i64 c_v)])] => [(2, fun S => .inv [] [] [] fun ids vs rs => { cars := [.i 8 .i64], inv := fun ((i, _) : Int × Unit) => IDp es i, mu := fun ((i, _) : Int × Unit) => es.length - i.toNat })]
  | _, _ => []
set_option maxHeartbeats 20000000 in
theorem ok_slices_IndexFunc_api_Elem_api_ElemD0 : GOk Try.prog 156 (lift k_slices_IndexFunc_api_Elem_api_ElemD0 sp_slices_IndexFunc_api_Elem_api_ElemD0) := by
  refine pf_ok (T := T_slices_IndexFunc_api_Elem_api_ElemD0) (Γ := []) tOk_slices_IndexFunc_api_Elem_api_ElemD0 (gOks_nil _) mixed Try.func156 (c := body Try.f156) (by kernel_rfl) (by kernel_rfl) k_slices_IndexFunc_api_Elem_api_ElemD0 sp_slices_IndexFunc_api_Elem_api_ElemD0 (by kernel_rfl) (by kernel_rfl) a_slices_IndexFunc_api_Elem_api_ElemD0 ?_
  intro args hp s u hfit h
  unfold sp_slices_IndexFunc_api_Elem_api_ElemD0 at h
  split at h
  · rename_i o_es es c_v
    obtain ⟨hvc, rfl, rfl⟩ := h.vc
    clear h hfit
    change List Elem at es
    conv => whnf
    repeat' (first
      | (refine And.intro ?_ ?_ <;> try conv => whnf)
      | (intro hh; first | (cases hh; done) | conv => whnf))
    all_goals try first | rfl | kernel_rfl
    all_goals try simp only [decide_eq_true_eq, decide_eq_false_iff_not] at *
    all_goals try simp only [Key_eta, Share_eta, Journey_eta, Batch_eta, FieldT_eta, OpB_eta, Product_eta, Item_eta, Delta_eta, Elem_eta, Rule_eta, Do10_eta, Key_beq, Share_beq, Journey_beq, FieldT_beq, Product_beq, Item_beq, Do10_beq, toNat0, toNat1, toNat2, toNat3, toNat4, toNat5, toNat6, toNat7, toNat8, toNat9, toNat10, toNat11, toNat12, toNat13, toNat14, toNat15, toNat16, toNat17, toNat18, toNat19, iA, iOf, atS, rwA, castK, zK, true_and, and_true, decide_eq_true_eq, decide_eq_false_iff_not, beq_iff_eq, bne_iff_ne, beq_eq_false_iff_ne, bne_eq_false_iff_eq, Bool.not_eq_true', Bool.not_eq_false', Bool.not_eq_true, Bool.not_eq_false, Nat.succ_eq_add_one, Int.not_lt, Int.not_le, gt_iff_lt, ge_iff_le, show bytesS T_slices_IndexFunc_api_Elem_api_ElemD0 25 = 1 from rfl, show bytesS T_slices_IndexFunc_api_Elem_api_ElemD0 158 = 56 from rfl] at *
    all_goals obtain ⟨hH, hl, h0, h1⟩ := hvc
    all_goals have hlen := hE_len hl
    all_goals try (
      have hex := ‹IDp _ _›
      obtain ⟨j, hj, rfl⟩ := hex
      try simp only [Int.toNat_natCast] at *)
    all_goals try (refine Vc.mk ?_; omega)
    all_goals try (
      exfalso
      have h0 : es.length = 0 := List.length_eq_zero_iff.2 hH
      omega)
    all_goals try (exact ⟨⟨0, by omega, rfl⟩⟩)
    all_goals try (exact ⟨⟨j + 1, by omega, by rw [wrap64] <;> omega⟩, by rw [wrap64] <;> omega⟩)
    all_goals first | exact Res.mk rfl | exact Res.mk trivial
  · exact h.fail.elim

def T_slices_ContainsFunc_api_Elem_api_ElemD0 : TT := [(3, ⟨.int .i64, 1, 8, [.int .i64 0], some .int⟩),
  (4, ⟨.bool, 1, 1, [.bool false], some .bool⟩),
  (5, ⟨.int .u8, 1, 1, [.int .u8 0], some .u8⟩),
  (25, ⟨.slice 5, 1, 24, [.slice none 0 0], none⟩),
  (158, ⟨.slice 160, 1, 24, [.slice none 0 0], none⟩),
  (160, ⟨.strct [(0, 3), (1, 25), (2, 158)], 3, 56, [.int .i64 0, .slice none 0 0, .slice none 0 0], some .elem⟩),
  (245, ⟨.other, 1, 8, [.nilFunc], none⟩)]
theorem tOk_slices_ContainsFunc_api_Elem_api_ElemD0 : TOk Try.prog T_slices_ContainsFunc_api_Elem_api_ElemD0 := tOk_of (by kernel_rfl)
def sp_slices_ContainsFunc_api_Elem_api_ElemD0 : Spec := fun args hp => match args, hp with
  | [.slF 0, .fn (.func 150) [] [.ptr 1 0]], [(0, .row o_es .elem es), (1, .cells [.val (.int .i64 c_v)])] => .vc (hE 0 es ∧ lE 0 es ∧ 0 ≤ c_v ∧ c_v + 0 ≤ 4) (bv false) []
  | _, _ => .fail "slices_ContainsFunc_api_Elem_api_ElemD0"
abbrev k_slices_ContainsFunc_api_Elem_api_ElemD0 : List (Option RK) := [some .elem, none]
def a_slices_ContainsFunc_api_Elem_api_ElemD0 : List SV → List (Nat × VB) → Anns := fun _ _ => []
set_option maxHeartbeats 20000000 in
theorem ok_slices_ContainsFunc_api_Elem_api_ElemD0 : GOk Try.prog 149 (lift k_slices_ContainsFunc_api_Elem_api_ElemD0 sp_slices_ContainsFunc_api_Elem_api_ElemD0) := by
  refine pf_ok (T := T_slices_ContainsFunc_api_Elem_api_ElemD0) (Γ := (156, lift k_slices_IndexFunc_api_Elem_api_ElemD0 sp_slices_IndexFunc_api_Elem_api_ElemD0) :: []) tOk_slices_ContainsFunc_api_Elem_api_ElemD0 (gOks_cons ok_slices_IndexFunc_api_Elem_api_ElemD0 (gOks_nil _)) mixed Try.func149 (c := body Try.f149) (by kernel_rfl) (by kernel_rfl) k_slices_ContainsFunc_api_Elem_api_ElemD0 sp_slices_ContainsFunc_api_Elem_api_ElemD0 (by kernel_rfl) (by kernel_rfl) a_slices_ContainsFunc_api_Elem_api_ElemD0 ?_
  intro args hp s u hfit h
  unfold sp_slices_ContainsFunc_api_Elem_api_ElemD0 at h
  split at h
  · rename_i o_es es c_v
    obtain ⟨hvc, rfl, rfl⟩ := h.vc
    clear h hfit
    change List Elem at es
    conv => whnf
    repeat' (first
      | (refine And.intro ?_ ?_ <;> try conv => whnf)
      | (intro hh; first | (cases hh; done) | conv => whnf))
    all_goals try first | rfl | kernel_rfl
    all_goals try simp only [decide_eq_true_eq, decide_eq_false_iff_not] at *
    all_goals try simp only [Key_eta, Share_eta, Journey_eta, Batch_eta, FieldT_eta, OpB_eta, Product_eta, Item_eta, Delta_eta, Elem_eta, Rule_eta, Do10_eta, Key_beq, Share_beq, Journey_beq, FieldT_beq, Product_beq, Item_beq, Do10_beq, toNat0, toNat1, toNat2, toNat3, toNat4, toNat5, toNat6, toNat7, toNat8, toNat9, toNat10, toNat11, toNat12, toNat13, toNat14, toNat15, toNat16, toNat17, toNat18, toNat19, iA, iOf, atS, rwA, castK, zK, true_and, and_true, decide_eq_true_eq, decide_eq_false_iff_not, beq_iff_eq, bne_iff_ne, beq_eq_false_iff_ne, bne_eq_false_iff_eq, Bool.not_eq_true', Bool.not_eq_false', Bool.not_eq_true, Bool.not_eq_false, Nat.succ_eq_add_one, Int.not_lt, Int.not_le, gt_iff_lt, ge_iff_le, show bytesS T_slices_ContainsFunc_api_Elem_api_ElemD0 25 = 1 from rfl, show bytesS T_slices_ContainsFunc_api_Elem_api_ElemD0 158 = 56 from rfl] at *
    all_goals first | exact Vc.mk hvc | exact Res.mk trivial | exact Res.mk (by decide) | exact Res.mk rfl
  · exact h.fail.elim

def T_tlv_deepS0 : TT := [(3, ⟨.int .i64, 1, 8, [.int .i64 0], some .int⟩),
  (4, ⟨.bool, 1, 1, [.bool false], some .bool⟩),
  (5, ⟨.int .u8, 1, 1, [.int .u8 0], some .u8⟩),
  (25, ⟨.slice 5, 1, 24, [.slice none 0 0], none⟩),
  (158, ⟨.slice 160, 1, 24, [.slice none 0 0], none⟩),
  (160, ⟨.strct [(0, 3), (1, 25), (2, 158)], 3, 56, [.int .i64 0, .slice none 0 0, .slice none 0 0], some .elem⟩),
  (245, ⟨.other, 1, 8, [.nilFunc], none⟩)]
theorem tOk_tlv_deepS0 : TOk Try.prog T_tlv_deepS0 := tOk_of (by kernel_rfl)
def sp_tlv_deepS0 : Spec := fun args hp => match args, hp with
  | [.slF 0, .val (.int .i64 in_)], [(0, .row o_es .elem es)] => .vc (hE 0 es ∧ lE 0 es ∧ 0 ≤ in_ ∧ in_ + 0 ≤ 4) (bv false) []
  | _, _ => .fail "tlv_deepS0"
abbrev k_tlv_deepS0 : List (Option RK) := [some .elem, none]
def a_tlv_deepS0 : List SV → List (Nat × VB) → Anns := fun _ _ => []
set_option maxHeartbeats 20000000 in
theorem ok_tlv_deepS0 : GOk Try.prog 126 (lift k_tlv_deepS0 sp_tlv_deepS0) := by
  refine pf_ok (T := T_tlv_deepS0) (Γ := (149, lift k_slices_ContainsFunc_api_Elem_api_ElemD0 sp_slices_ContainsFunc_api_Elem_api_ElemD0) :: []) tOk_tlv_deepS0 (gOks_cons ok_slices_ContainsFunc_api_Elem_api_ElemD0 (gOks_nil _)) mixed Try.func126 (c := body Try.f126) (by kernel_rfl) (by kernel_rfl) k_tlv_deepS0 sp_tlv_deepS0 (by kernel_rfl) (by kernel_rfl) a_tlv_deepS0 ?_
  intro args hp s u hfit h
  unfold sp_tlv_deepS0 at h
  split at h
  · rename_i in_ o_es es
    obtain ⟨hvc, rfl, rfl⟩ := h.vc
    clear h hfit
    change List Elem at es
    conv => whnf
    repeat' (first
      | (refine And.intro ?_ ?_ <;> try conv => whnf)
      | (intro hh; first | (cases hh; done) | conv => whnf))
    all_goals try first | rfl | kernel_rfl
    all_goals try simp only [decide_eq_true_eq, decide_eq_false_iff_not] at *
    all_goals try simp only [Key_eta, Share_eta, Journey_eta, Batch_eta, FieldT_eta, OpB_eta, Product_eta, Item_eta, Delta_eta, Elem_eta, Rule_eta, Do10_eta, Key_beq, Share_beq, Journey_beq, FieldT_beq, Product_beq, Item_beq, Do10_beq, toNat0, toNat1, toNat2, toNat3, toNat4, toNat5, toNat6, toNat7, toNat8, toNat9, toNat10, toNat11, toNat12, toNat13, toNat14, toNat15, toNat16, toNat17, toNat18, toNat19, iA, iOf, atS, rwA, castK, zK, true_and, and_true, decide_eq_true_eq, decide_eq_false_iff_not, beq_iff_eq, bne_iff_ne, beq_eq_false_iff_ne, bne_eq_false_iff_eq, Bool.not_eq_true', Bool.not_eq_false', Bool.not_eq_true, Bool.not_eq_false, Nat.succ_eq_add_one, Int.not_lt, Int.not_le, gt_iff_lt, ge_iff_le, show bytesS T_tlv_deepS0 25 = 1 from rfl, show bytesS T_tlv_deepS0 158 = 56 from rfl] at *
    all_goals obtain ⟨hH, hl, h0, h1⟩ := hvc
    all_goals have hz : es.length = 0 := List.length_eq_zero_iff.2 hH
    all_goals try (exact Vc.mk ⟨hH, hl, h0, h1⟩)
    all_goals try (exfalso; omega)
    all_goals exact Res.mk trivial
  · exact h.fail.elim

def T_tlv_rightS0 : TT := [(3, ⟨.int .i64, 1, 8, [.int .i64 0], some .int⟩),
  (4, ⟨.bool, 1, 1, [.bool false], some .bool⟩),
  (5, ⟨.int .u8, 1, 1, [.int .u8 0], some .u8⟩),
  (25, ⟨.slice 5, 1, 24, [.slice none 0 0], none⟩),
  (158, ⟨.slice 160, 1, 24, [.slice none 0 0], none⟩),
  (160, ⟨.strct [(0, 3), (1, 25), (2, 158)], 3, 56, [.int .i64 0, .slice none 0 0, .slice none 0 0], some .elem⟩)]
theorem tOk_tlv_rightS0 : TOk Try.prog T_tlv_rightS0 := tOk_of (by kernel_rfl)
def sp_tlv_rightS0 : Spec := fun args hp => match args, hp with
  | [.slF 0], [(0, .row o_es .elem es)] => .vc (hE 0 es ∧ lE 0 es) (bv (rightS 0 es)) []
  | _, _ => .fail "tlv_rightS0"
abbrev k_tlv_rightS0 : List (Option RK) := [some .elem]
def a_tlv_rightS0 : List SV → List (Nat × VB) → Anns := fun args hp => match args, hp with
  | [.slF 0], [(0, .row o_es .elem es)] => [(3, fun S => .inv [] [] [] fun ids vs rs => { cars := [.i 9 .i64, .i 3 .i64], inv := fun ((i, last, _) : Int × Int × Unit) => IRt 0 es i last, mu := fun ((i, last, _) : Int × Int × Unit) => es.length - i.toNat })]
  | _, _ => []
set_option maxHeartbeats 20000000 in
theorem ok_tlv_rightS0 : GOk Try.prog 127 (lift k_tlv_rightS0 sp_tlv_rightS0) := by
  refine pf_ok (T := T_tlv_rightS0) (Γ := []) tOk_tlv_rightS0 (gOks_nil _) mixed Try.func127 (c := body Try.f127) (by kernel_rfl) (by kernel_rfl) k_tlv_rightS0 sp_tlv_rightS0 (by kernel_rfl) (by kernel_rfl) a_tlv_rightS0 ?_
  intro args hp s u hfit h
  unfold sp_tlv_rightS0 at h
  split at h
  · rename_i o_es es
    obtain ⟨hvc, rfl, rfl⟩ := h.vc
    clear h hfit
    change List Elem at es
    conv => whnf
    repeat' (first
      | (refine And.intro ?_ ?_ <;> try conv => whnf)
      | (intro hh; first | (cases hh; done) | conv => whnf))
    all_goals try first | rfl | kernel_rfl
    all_goals try simp only [decide_eq_true_eq, decide_eq_false_iff_not] at *
    all_goals try simp only [Key_eta, Share_eta, Journey_eta, Batch_eta, FieldT_eta, OpB_eta, Product_eta, Item_eta, Delta_eta, Elem_eta, Rule_eta, Do10_eta, Key_beq, Share_beq, Journey_beq, FieldT_beq, Product_beq, Item_beq, Do10_beq, toNat0, toNat1, toNat2, toNat3, toNat4, toNat5, toNat6, toNat7, toNat8, toNat9, toNat10, toNat11, toNat12, toNat13, toNat14, toNat15, toNat16, toNat17, toNat18, toNat19, iA, iOf, atS, rwA, castK, zK, true_and, and_true, decide_eq_true_eq, decide_eq_false_iff_not, beq_iff_eq, bne_iff_ne, beq_eq_false_iff_ne, bne_eq_false_iff_eq, Bool.not_eq_true', Bool.not_eq_false', Bool.not_eq_true, Bool.not_eq_false, Nat.succ_eq_add_one, Int.not_lt, Int.not_le, gt_iff_lt, ge_iff_le, show bytesS T_tlv_rightS0 25 = 1 from rfl, show bytesS T_tlv_rightS0 158 = 56 from rfl] at *
    all_goals obtain ⟨hH, hl⟩ := hvc
    all_goals have hlen := hE_len hl
    all_goals try (
      have hex := ‹IRt _ _ _ _›
      obtain ⟨j, l, rfl, hj, rfl, hr⟩ := hex
      try simp only [Int.toNat_natCast] at *)
    all_goals try (refine Vc.mk ?_; omega)
    all_goals try (exact ⟨⟨0, 0, rfl, by omega, rfl, rfl⟩⟩)
    all_goals try (
      exfalso
      have h0 : es.length = 0 := List.length_eq_zero_iff.2 hH
      omega)
    all_goals exact Res.mk rfl
  · exact h.fail.elim

end Go.Proofs.Ythbmllekbbfobaa.Sx
