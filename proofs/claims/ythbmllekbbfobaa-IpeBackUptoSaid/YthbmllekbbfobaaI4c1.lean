import Derived.Test.YthbmllekbbfobaaProg
import Derived.Test.YthbmllekbbfobaaSxU
import Derived.IntWalk
import Derived.Test.YthbmllekbbfobaaI4c0
/-! tlv, Put -/
namespace Go.Proofs.Ythbmllekbbfobaa.Sx
open Go
set_option linter.unusedVariables false
set_option linter.unusedSimpArgs false
set_option maxRecDepth 100000

def T_tlv_layS0 : TT := [(3, ⟨.int .i64, 1, 8, [.int .i64 0], some .int⟩),
  (4, ⟨.bool, 1, 1, [.bool false], some .bool⟩),
  (5, ⟨.int .u8, 1, 1, [.int .u8 0], some .u8⟩),
  (25, ⟨.slice 5, 1, 24, [.slice none 0 0], none⟩),
  (158, ⟨.slice 160, 1, 24, [.slice none 0 0], none⟩),
  (160, ⟨.strct [(0, 3), (1, 25), (2, 158)], 3, 56, [.int .i64 0, .slice none 0 0, .slice none 0 0], some .elem⟩)]
theorem tOk_tlv_layS0 : TOk Try.prog T_tlv_layS0 := tOk_of (by kernel_rfl)
def sp_tlv_layS0 : Spec := fun args hp => match args, hp with
  | [.slF 0], [(0, .row o_es .elem es)] => .vc (hE 0 es ∧ lE 0 es) (.tup [.slF 2000, bv (layS 0 es).2]) [(2000, some (.row true .u8 (layS 0 es).1))]
  | _, _ => .fail "tlv_layS0"
abbrev k_tlv_layS0 : List (Option RK) := [some .elem]
def a_tlv_layS0 : List SV → List (Nat × VB) → Anns := fun args hp => match args, hp with
  | [.slF 0], [(0, .row o_es .elem es)] => [(3, fun S => .inv [] [] [] fun ids vs rs => { cars := [.i 11 .i64, .r 4 true .u8], inv := fun ((i, b, _) : Int × List Int × Unit) => ILy 0 es i b, mu := fun ((i, b, _) : Int × List Int × Unit) => es.length - i.toNat })]
  | _, _ => []
set_option maxHeartbeats 20000000 in
theorem ok_tlv_layS0 : GOk Try.prog 128 (lift k_tlv_layS0 sp_tlv_layS0) := by
  refine pf_ok (T := T_tlv_layS0) (Γ := []) tOk_tlv_layS0 (gOks_nil _) mixed Try.func128 (c := body Try.f128) (by kernel_rfl) (by kernel_rfl) k_tlv_layS0 sp_tlv_layS0 (by kernel_rfl) (by kernel_rfl) a_tlv_layS0 ?_
  intro args hp s u hfit h
  unfold sp_tlv_layS0 at h
  split at h
  · rename_i o_es es
    obtain ⟨hvc, rfl, rfl⟩ := h.vc
    clear h hfit
    change List Elem at es
    conv => whnf
    repeat' (first
      | (refine And.intro ?_ ?_ <;> try conv => whnf)
      | (intro hh; first | (cases hh; done) | conv => whnf))
    all_goals try first | rfl | kernel_rfl
    all_goals try simp only [decide_eq_true_eq, decide_eq_false_iff_not] at *
    all_goals try simp only [Key_eta, Share_eta, Journey_eta, Batch_eta, FieldT_eta, OpB_eta, Product_eta, Item_eta, Delta_eta, Elem_eta, Rule_eta, Do10_eta, Key_beq, Share_beq, Journey_beq, FieldT_beq, Product_beq, Item_beq, Do10_beq, toNat0, toNat1, toNat2, toNat3, toNat4, toNat5, toNat6, toNat7, toNat8, toNat9, toNat10, toNat11, toNat12, toNat13, toNat14, toNat15, toNat16, toNat17, toNat18, toNat19, iA, iOf, atS, rwA, castK, zK, true_and, and_true, decide_eq_true_eq, decide_eq_false_iff_not, beq_iff_eq, bne_iff_ne, beq_eq_false_iff_ne, bne_eq_false_iff_eq, Bool.not_eq_true', Bool.not_eq_false', Bool.not_eq_true, Bool.not_eq_false, Nat.succ_eq_add_one, Int.not_lt, Int.not_le, gt_iff_lt, ge_iff_le, show bytesS T_tlv_layS0 25 = 1 from rfl, show bytesS T_tlv_layS0 158 = 56 from rfl] at *
    all_goals obtain ⟨hH, hl⟩ := hvc
    all_goals have hlen := hE_len hl
    all_goals try (
      have hex := ‹ILy _ _ _ _›
      obtain ⟨j, c, rfl, hj, rfl, hcl, hr⟩ := hex
      try simp only [Int.toNat_natCast] at *)
    all_goals try (refine Vc.mk ?_; omega)
    all_goals try (exact ⟨⟨0, [], rfl, by omega, rfl, by simp, lay_preL _⟩⟩)
    all_goals try (
      exfalso
      have h0 : es.length = 0 := List.length_eq_zero_iff.2 hH
      omega)
    all_goals try (
      rw [List.drop_of_length_le (by omega), layGo, preL, if_pos rfl, List.append_nil, show es = [] from hH] at hr
      have hc := congrArg Prod.fst hr
      exact Res.mk ⟨hc, rfl⟩)
    all_goals trace_state
    all_goals sorry
  · exact h.fail.elim

def T_tlv_deep_1S1 : TT := [(3, ⟨.int .i64, 1, 8, [.int .i64 0], some .int⟩),
  (4, ⟨.bool, 1, 1, [.bool false], some .bool⟩),
  (5, ⟨.int .u8, 1, 1, [.int .u8 0], some .u8⟩),
  (25, ⟨.slice 5, 1, 24, [.slice none 0 0], none⟩),
  (158, ⟨.slice 160, 1, 24, [.slice none 0 0], none⟩),
  (160, ⟨.strct [(0, 3), (1, 25), (2, 158)], 3, 56, [.int .i64 0, .slice none 0 0, .slice none 0 0], some .elem⟩)]
theorem tOk_tlv_deep_1S1 : TOk Try.prog T_tlv_deep_1S1 := tOk_of (by kernel_rfl)
def sp_tlv_deep_1S1 : Spec := fun args hp => match args, hp with
  | [.agg [.val (.int .i64 e_tag), .slF 0, .slF 1], .ptr 2 0], [(0, .row o_e_bytes .u8 e_bytes), (1, .row o_e_elems .elem e_elems), (2, .cells [.val (.int .i64 c_v)])] => .vc (hE 0 (⟨e_tag, e_bytes, e_elems⟩ : Elem).elems ∧ lE 0 (⟨e_tag, e_bytes, e_elems⟩ : Elem).elems ∧ 0 ≤ c_v ∧ c_v + 1 ≤ 4) (bv false) []
  | _, _ => .fail "tlv_deep_1S1"
abbrev k_tlv_deep_1S1 : List (Option RK) := [none, none]
def a_tlv_deep_1S1 : List SV → List (Nat × VB) → Anns := fun _ _ => []
set_option maxHeartbeats 20000000 in
theorem ok_tlv_deep_1S1 : GOk Try.prog 150 (lift k_tlv_deep_1S1 sp_tlv_deep_1S1) := by
  refine pf_ok (T := T_tlv_deep_1S1) (Γ := (126, lift k_tlv_deepS0 sp_tlv_deepS0) :: []) tOk_tlv_deep_1S1 (gOks_cons ok_tlv_deepS0 (gOks_nil _)) mixed Try.func150 (c := body Try.f150) (by kernel_rfl) (by kernel_rfl) k_tlv_deep_1S1 sp_tlv_deep_1S1 (by kernel_rfl) (by kernel_rfl) a_tlv_deep_1S1 ?_
  intro args hp s u hfit h
  unfold sp_tlv_deep_1S1 at h
  split at h
  · rename_i e_tag o_e_bytes e_bytes o_e_elems e_elems c_v
    obtain ⟨hvc, rfl, rfl⟩ := h.vc
    clear h hfit
    conv => whnf
    repeat' (first
      | (refine And.intro ?_ ?_ <;> try conv => whnf)
      | (intro hh; first | (cases hh; done) | conv => whnf))
    all_goals try first | rfl | kernel_rfl
    all_goals try simp only [decide_eq_true_eq, decide_eq_false_iff_not] at *
    all_goals try simp only [Key_eta, Share_eta, Journey_eta, Batch_eta, FieldT_eta, OpB_eta, Product_eta, Item_eta, Delta_eta, Elem_eta, Rule_eta, Do10_eta, Key_beq, Share_beq, Journey_beq, FieldT_beq, Product_beq, Item_beq, Do10_beq, toNat0, toNat1, toNat2, toNat3, toNat4, toNat5, toNat6, toNat7, toNat8, toNat9, toNat10, toNat11, toNat12, toNat13, toNat14, toNat15, toNat16, toNat17, toNat18, toNat19, iA, iOf, atS, rwA, castK, zK, true_and, and_true, decide_eq_true_eq, decide_eq_false_iff_not, beq_iff_eq, bne_iff_ne, beq_eq_false_iff_ne, bne_eq_false_iff_eq, Bool.not_eq_true', Bool.not_eq_false', Bool.not_eq_true, Bool.not_eq_false, Nat.succ_eq_add_one, Int.not_lt, Int.not_le, gt_iff_lt, ge_iff_le, show bytesS T_tlv_deep_1S1 25 = 1 from rfl, show bytesS T_tlv_deep_1S1 158 = 56 from rfl] at *
    all_goals obtain ⟨hH, hl, h0, h1⟩ := hvc
    all_goals change hE 0 e_elems at hH
    all_goals change lE 0 e_elems at hl
    all_goals try (exact Vc.mk ⟨hH, hl, by rw [wrap64 (by omega) (by omega)]; omega, by rw [wrap64 (by omega) (by omega)]; omega⟩)
    all_goals exact Res.mk trivial
  · exact h.fail.elim

def T_slices_IndexFunc_api_Elem_api_ElemD1 : TT := [(3, ⟨.int .i64, 1, 8, [.int .i64 0], some .int⟩),
  (4, ⟨.bool, 1, 1, [.bool false], some .bool⟩),
  (5, ⟨.int .u8, 1, 1, [.int .u8 0], some .u8⟩),
  (25, ⟨.slice 5, 1, 24, [.slice none 0 0], none⟩),
  (158, ⟨.slice 160, 1, 24, [.slice none 0 0], none⟩),
  (160, ⟨.strct [(0, 3), (1, 25), (2, 158)], 3, 56, [.int .i64 0, .slice none 0 0, .slice none 0 0], some .elem⟩),
  (245, ⟨.other, 1, 8, [.nilFunc], none⟩)]
theorem tOk_slices_IndexFunc_api_Elem_api_ElemD1 : TOk Try.prog T_slices_IndexFunc_api_Elem_api_ElemD1 := tOk_of (by kernel_rfl)
def sp_slices_IndexFunc_api_Elem_api_ElemD1 : Spec := fun args hp => match args, hp with
  | [.slF 0, .fn (.func 150) [] [.ptr 1 0]], [(0, .row o_es .elem es), (1, .cells [.val (.int .i64 c_v)])] => .vc (hE 1 es ∧ lE 1 es ∧ 0 ≤ c_v ∧ c_v + 1 ≤ 4) (iv (-1)) []
  | _, _ => .fail "slices_IndexFunc_api_Elem_api_ElemD1"
abbrev k_slices_IndexFunc_api_Elem_api_ElemD1 : List (Option RK) := [some .elem, none]
def a_slices_IndexFunc_api_Elem_api_ElemD1 : List SV → List (Nat × VB) → Anns := fun args hp => match args, hp with
  | [.slF 0, .fn (.func 150) [] [.ptr 1 0]], [(0, .row o_es .elem es), (1, .cells [.val (.int .i64 c_v)])] => [(2, fun S => .inv [] [] [] fun ids vs rs => { cars := [.i 8 .i64], inv := fun ((i, _) : Int × Unit) => IDp es i, mu := fun ((i, _) : Int × Unit) => es.length - i.toNat })]
  | _, _ => []
set_option maxHeartbeats 20000000 in
theorem ok_slices_IndexFunc_api_Elem_api_ElemD1 : GOk Try.prog 156 (lift k_slices_IndexFunc_api_Elem_api_ElemD1 sp_slices_IndexFunc_api_Elem_api_ElemD1) := by
  refine pf_ok (T := T_slices_IndexFunc_api_Elem_api_ElemD1) (Γ := (150, lift k_tlv_deep_1S1 sp_tlv_deep_1S1) :: []) tOk_slices_IndexFunc_api_Elem_api_ElemD1 (gOks_cons ok_tlv_deep_1S1 (gOks_nil _)) mixed Try.func156 (c := body Try.f156) (by kernel_rfl) (by kernel_rfl) k_slices_IndexFunc_api_Elem_api_ElemD1 sp_slices_IndexFunc_api_Elem_api_ElemD1 (by kernel_rfl) (by kernel_rfl) a_slices_IndexFunc_api_Elem_api_ElemD1 ?_
  intro args hp s u hfit h
  unfold sp_slices_IndexFunc_api_Elem_api_ElemD1 at h
  split at h
  · rename_i o_es es c_v
    obtain ⟨hvc, rfl, rfl⟩ := h.vc
    clear h hfit
    change List Elem at es
    conv => whnf
    repeat' (first
      | (refine And.intro ?_ ?_ <;> try conv => whnf)
      | (intro hh; first | (cases hh; done) | conv => whnf))
    all_goals try first | rfl | kernel_rfl
    all_goals try simp only [decide_eq_true_eq, decide_eq_false_iff_not] at *
    all_goals try simp only [Key_eta, Share_eta, Journey_eta, Batch_eta, FieldT_eta, OpB_eta, Product_eta, Item_eta, Delta_eta, Elem_eta, Rule_eta, Do10_eta, Key_beq, Share_beq, Journey_beq, FieldT_beq, Product_beq, Item_beq, Do10_beq, toNat0, toNat1, toNat2, toNat3, toNat4, toNat5, toNat6, toNat7, toNat8, toNat9, toNat10, toNat11, toNat12, toNat13, toNat14, toNat15, toNat16, toNat17, toNat18, toNat19, iA, iOf, atS, rwA, castK, zK, true_and, and_true, decide_eq_true_eq, decide_eq_false_iff_not, beq_iff_eq, bne_iff_ne, beq_eq_false_iff_ne, bne_eq_false_iff_eq, Bool.not_eq_true', Bool.not_eq_false', Bool.not_eq_true, Bool.not_eq_false, Nat.succ_eq_add_one, Int.not_lt, Int.not_le, gt_iff_lt, ge_iff_le, show bytesS T_slices_IndexFunc_api_Elem_api_ElemD1 25 = 1 from rfl, show bytesS T_slices_IndexFunc_api_Elem_api_ElemD1 158 = 56 from rfl] at *
    all_goals obtain ⟨hH, hl, h0, h1⟩ := hvc
    all_goals have hlen := hE_len hl
    all_goals try (
      have hex := ‹IDp _ _›
      obtain ⟨j, hj, rfl⟩ := hex
      try simp only [Int.toNat_natCast] at *)
    all_goals try (refine Vc.mk ?_; omega)
    all_goals try (
      have hm := mem_getD (d := (Elem.mk 0 [] [] : Elem)) (l := es) (j := j) (by omega)
      exact Vc.mk ⟨hH _ hm, (hl.2 _ hm).2, h0, h1⟩)
    all_goals try (exact ⟨⟨0, by omega, rfl⟩⟩)
    all_goals try (exact ⟨⟨j + 1, by omega, by rw [wrap64] <;> omega⟩, by rw [wrap64] <;> omega⟩)
    all_goals first | exact Res.mk rfl | exact Res.mk trivial
  · exact h.fail.elim

def T_slices_ContainsFunc_api_Elem_api_ElemD1 : TT := [(3, ⟨.int .i64, 1, 8, [.int .i64 0], some .int⟩),
  (4, ⟨.bool, 1, 1, [.bool false], some .bool⟩),
  (5, ⟨.int .u8, 1, 1, [.int .u8 0], some .u8⟩),
  (25, ⟨.slice 5, 1, 24, [.slice none 0 0], none⟩),
  (158, ⟨.slice 160, 1, 24, [.slice none 0 0], none⟩),
  (160, ⟨.strct [(0, 3), (1, 25), (2, 158)], 3, 56, [.int .i64 0, .slice none 0 0, .slice none 0 0], some .elem⟩),
  (245, ⟨.other, 1, 8, [.nilFunc], none⟩)]
theorem tOk_slices_ContainsFunc_api_Elem_api_ElemD1 : TOk Try.prog T_slices_ContainsFunc_api_Elem_api_ElemD1 := tOk_of (by kernel_rfl)
def sp_slices_ContainsFunc_api_Elem_api_ElemD1 : Spec := fun args hp => match args, hp with
  | [.slF 0, .fn (.func 150) [] [.ptr 1 0]], [(0, .row o_es .elem es), (1, .cells [.val (.int .i64 c_v)])] => .vc (hE 1 es ∧ lE 1 es ∧ 0 ≤ c_v ∧ c_v + 1 ≤ 4) (bv false) []
  | _, _ => .fail "slices_ContainsFunc_api_Elem_api_ElemD1"
abbrev k_slices_ContainsFunc_api_Elem_api_ElemD1 : List (Option RK) := [some .elem, none]
def a_slices_ContainsFunc_api_Elem_api_ElemD1 : List SV → List (Nat × VB) → Anns := fun _ _ => []
set_option maxHeartbeats 20000000 in
theorem ok_slices_ContainsFunc_api_Elem_api_ElemD1 : GOk Try.prog 149 (lift k_slices_ContainsFunc_api_Elem_api_ElemD1 sp_slices_ContainsFunc_api_Elem_api_ElemD1) := by
  refine pf_ok (T := T_slices_ContainsFunc_api_Elem_api_ElemD1) (Γ := (156, lift k_slices_IndexFunc_api_Elem_api_ElemD1 sp_slices_IndexFunc_api_Elem_api_ElemD1) :: []) tOk_slices_ContainsFunc_api_Elem_api_ElemD1 (gOks_cons ok_slices_IndexFunc_api_Elem_api_ElemD1 (gOks_nil _)) mixed Try.func149 (c := body Try.f149) (by kernel_rfl) (by kernel_rfl) k_slices_ContainsFunc_api_Elem_api_ElemD1 sp_slices_ContainsFunc_api_Elem_api_ElemD1 (by kernel_rfl) (by kernel_rfl) a_slices_ContainsFunc_api_Elem_api_ElemD1 ?_
  intro args hp s u hfit h
  unfold sp_slices_ContainsFunc_api_Elem_api_ElemD1 at h
  split at h
  · rename_i o_es es c_v
    obtain ⟨hvc, rfl, rfl⟩ := h.vc
    clear h hfit
    change List Elem at es
    conv => whnf
    repeat' (first
      | (refine And.intro ?_ ?_ <;> try conv => whnf)
      | (intro hh; first | (cases hh; done) | conv => whnf))
    all_goals try first | rfl | kernel_rfl
    all_goals try simp only [decide_eq_true_eq, decide_eq_false_iff_not] at *
    all_goals try simp only [Key_eta, Share_eta, Journey_eta, Batch_eta, FieldT_eta, OpB_eta, Product_eta, Item_eta, Delta_eta, Elem_eta, Rule_eta, Do10_eta, Key_beq, Share_beq, Journey_beq, FieldT_beq, Product_beq, Item_beq, Do10_beq, toNat0, toNat1, toNat2, toNat3, toNat4, toNat5, toNat6, toNat7, toNat8, toNat9, toNat10, toNat11, toNat12, toNat13, toNat14, toNat15, toNat16, toNat17, toNat18, toNat19, iA, iOf, atS, rwA, castK, zK, true_and, and_true, decide_eq_true_eq, decide_eq_false_iff_not, beq_iff_eq, bne_iff_ne, beq_eq_false_iff_ne, bne_eq_false_iff_eq, Bool.not_eq_true', Bool.not_eq_false', Bool.not_eq_true, Bool.not_eq_false, Nat.succ_eq_add_one, Int.not_lt, Int.not_le, gt_iff_lt, ge_iff_le, show bytesS T_slices_ContainsFunc_api_Elem_api_ElemD1 25 = 1 from rfl, show bytesS T_slices_ContainsFunc_api_Elem_api_ElemD1 158 = 56 from rfl] at *
    all_goals first | exact Vc.mk hvc | exact Res.mk trivial | exact Res.mk (by decide) | exact Res.mk rfl
  · exact h.fail.elim

def T_tlv_deepS1 : TT := [(3, ⟨.int .i64, 1, 8, [.int .i64 0], some .int⟩),
  (4, ⟨.bool, 1, 1, [.bool false], some .bool⟩),
  (5, ⟨.int .u8, 1, 1, [.int .u8 0], some .u8⟩),
  (25, ⟨.slice 5, 1, 24, [.slice none 0 0], none⟩),
  (158, ⟨.slice 160, 1, 24, [.slice none 0 0], none⟩),
  (160, ⟨.strct [(0, 3), (1, 25), (2, 158)], 3, 56, [.int .i64 0, .slice none 0 0, .slice none 0 0], some .elem⟩),
  (245, ⟨.other, 1, 8, [.nilFunc], none⟩)]
theorem tOk_tlv_deepS1 : TOk Try.prog T_tlv_deepS1 := tOk_of (by kernel_rfl)
def sp_tlv_deepS1 : Spec := fun args hp => match args, hp with
  | [.slF 0, .val (.int .i64 in_)], [(0, .row o_es .elem es)] => .vc (hE 1 es ∧ lE 1 es ∧ 0 ≤ in_ ∧ in_ + 1 ≤ 4) (bv false) []
  | _, _ => .fail "tlv_deepS1"
abbrev k_tlv_deepS1 : List (Option RK) := [some .elem, none]
def a_tlv_deepS1 : List SV → List (Nat × VB) → Anns := fun _ _ => []
set_option maxHeartbeats 20000000 in
theorem ok_tlv_deepS1 : GOk Try.prog 126 (lift k_tlv_deepS1 sp_tlv_deepS1) := by
  refine pf_ok (T := T_tlv_deepS1) (Γ := (149, lift k_slices_ContainsFunc_api_Elem_api_ElemD1 sp_slices_ContainsFunc_api_Elem_api_ElemD1) :: []) tOk_tlv_deepS1 (gOks_cons ok_slices_ContainsFunc_api_Elem_api_ElemD1 (gOks_nil _)) mixed Try.func126 (c := body Try.f126) (by kernel_rfl) (by kernel_rfl) k_tlv_deepS1 sp_tlv_deepS1 (by kernel_rfl) (by kernel_rfl) a_tlv_deepS1 ?_
  intro args hp s u hfit h
  unfold sp_tlv_deepS1 at h
  split at h
  · rename_i in_ o_es es
    obtain ⟨hvc, rfl, rfl⟩ := h.vc
    clear h hfit
    change List Elem at es
    conv => whnf
    repeat' (first
      | (refine And.intro ?_ ?_ <;> try conv => whnf)
      | (intro hh; first | (cases hh; done) | conv => whnf))
    all_goals try first | rfl | kernel_rfl
    all_goals try simp only [decide_eq_true_eq, decide_eq_false_iff_not] at *
    all_goals try simp only [Key_eta, Share_eta, Journey_eta, Batch_eta, FieldT_eta, OpB_eta, Product_eta, Item_eta, Delta_eta, Elem_eta, Rule_eta, Do10_eta, Key_beq, Share_beq, Journey_beq, FieldT_beq, Product_beq, Item_beq, Do10_beq, toNat0, toNat1, toNat2, toNat3, toNat4, toNat5, toNat6, toNat7, toNat8, toNat9, toNat10, toNat11, toNat12, toNat13, toNat14, toNat15, toNat16, toNat17, toNat18, toNat19, iA, iOf, atS, rwA, castK, zK, true_and, and_true, decide_eq_true_eq, decide_eq_false_iff_not, beq_iff_eq, bne_iff_ne, beq_eq_false_iff_ne, bne_eq_false_iff_eq, Bool.not_eq_true', Bool.not_eq_false', Bool.not_eq_true, Bool.not_eq_false, Nat.succ_eq_add_one, Int.not_lt, Int.not_le, gt_iff_lt, ge_iff_le, show bytesS T_tlv_deepS1 25 = 1 from rfl, show bytesS T_tlv_deepS1 158 = 56 from rfl] at *
    all_goals obtain ⟨hH, hl, h0, h1⟩ := hvc
    all_goals try (exact Vc.mk ⟨hH, hl, h0, h1⟩)
    all_goals try (exfalso; omega)
    all_goals exact Res.mk trivial
  · exact h.fail.elim

def T_tlv_rightS1 : TT := [(3, ⟨.int .i64, 1, 8, [.int .i64 0], some .int⟩),
  (4, ⟨.bool, 1, 1, [.bool false], some .bool⟩),
  (5, ⟨.int .u8, 1, 1, [.int .u8 0], some .u8⟩),
  (25, ⟨.slice 5, 1, 24, [.slice none 0 0], none⟩),
  (158, ⟨.slice 160, 1, 24, [.slice none 0 0], none⟩),
  (160, ⟨.strct [(0, 3), (1, 25), (2, 158)], 3, 56, [.int .i64 0, .slice none 0 0, .slice none 0 0], some .elem⟩)]
theorem tOk_tlv_rightS1 : TOk Try.prog T_tlv_rightS1 := tOk_of (by kernel_rfl)
def sp_tlv_rightS1 : Spec := fun args hp => match args, hp with
  | [.slF 0], [(0, .row o_es .elem es)] => .vc (hE 1 es ∧ lE 1 es) (bv (rightS 1 es)) []
  | _, _ => .fail "tlv_rightS1"
abbrev k_tlv_rightS1 : List (Option RK) := [some .elem]
def a_tlv_rightS1 : List SV → List (Nat × VB) → Anns := fun args hp => match args, hp with
  | [.slF 0], [(0, .row o_es .elem es)] => [(3, fun S => .inv [] [] [] fun ids vs rs => { cars := [.i 9 .i64, .i 3 .i64], inv := fun ((i, last, _) : Int × Int × Unit) => IRt 1 es i last, mu := fun ((i, last, _) : Int × Int × Unit) => es.length - i.toNat })]
  | _, _ => []
set_option maxHeartbeats 20000000 in
theorem ok_tlv_rightS1 : GOk Try.prog 127 (lift k_tlv_rightS1 sp_tlv_rightS1) := by
  refine pf_ok (T := T_tlv_rightS1) (Γ := (127, lift k_tlv_rightS0 sp_tlv_rightS0) :: []) tOk_tlv_rightS1 (gOks_cons ok_tlv_rightS0 (gOks_nil _)) mixed Try.func127 (c := body Try.f127) (by kernel_rfl) (by kernel_rfl) k_tlv_rightS1 sp_tlv_rightS1 (by kernel_rfl) (by kernel_rfl) a_tlv_rightS1 ?_
  intro args hp s u hfit h
  unfold sp_tlv_rightS1 at h
  split at h
  · rename_i o_es es
    obtain ⟨hvc, rfl, rfl⟩ := h.vc
    clear h hfit
    change List Elem at es
    conv => whnf
    repeat' (first
      | (refine And.intro ?_ ?_ <;> try conv => whnf)
      | (intro hh; first | (cases hh; done) | conv => whnf))
    all_goals try first | rfl | kernel_rfl
    all_goals try simp only [decide_eq_true_eq, decide_eq_false_iff_not] at *
    all_goals try simp only [Key_eta, Share_eta, Journey_eta, Batch_eta, FieldT_eta, OpB_eta, Product_eta, Item_eta, Delta_eta, Elem_eta, Rule_eta, Do10_eta, Key_beq, Share_beq, Journey_beq, FieldT_beq, Product_beq, Item_beq, Do10_beq, toNat0, toNat1, toNat2, toNat3, toNat4, toNat5, toNat6, toNat7, toNat8, toNat9, toNat10, toNat11, toNat12, toNat13, toNat14, toNat15, toNat16, toNat17, toNat18, toNat19, iA, iOf, atS, rwA, castK, zK, true_and, and_true, decide_eq_true_eq, decide_eq_false_iff_not, beq_iff_eq, bne_iff_ne, beq_eq_false_iff_ne, bne_eq_false_iff_eq, Bool.not_eq_true', Bool.not_eq_false', Bool.not_eq_true, Bool.not_eq_false, Nat.succ_eq_add_one, Int.not_lt, Int.not_le, gt_iff_lt, ge_iff_le, show bytesS T_tlv_rightS1 25 = 1 from rfl, show bytesS T_tlv_rightS1 158 = 56 from rfl] at *
    all_goals obtain ⟨hH, hl⟩ := hvc
    all_goals have hlen := hE_len hl
    all_goals try (
      have hex := ‹IRt _ _ _ _›
      obtain ⟨j, l, rfl, hj, rfl, hr⟩ := hex
      try simp only [Int.toNat_natCast] at *)
    all_goals try (refine Vc.mk ?_; omega)
    all_goals try (exact ⟨⟨0, 0, rfl, by omega, rfl, rfl⟩⟩)
    all_goals try (
      have hm := mem_getD (d := (Elem.mk 0 [] [] : Elem)) (l := es) (j := j) (by omega)
      rw [drop_getD (d := (Elem.mk 0 [] [] : Elem)) (by omega), rightGo] at hr)
    all_goals try (exact Vc.mk ⟨hH _ hm, (hl.2 _ hm).2⟩)
    all_goals try (
      have hb : badR (recR 1) l (es.getD j (Elem.mk 0 [] [] : Elem)) := by
        unfold badR
        first
          | exact .inl ‹_›
          | exact .inr (.inl ‹_›)
          | exact .inr (.inr (.inl ⟨by assumption, by omega⟩))
          | exact .inr (.inr (.inr (.inl ⟨by assumption, by omega⟩)))
          | exact .inr (.inr (.inr (.inr ‹_›)))
      rw [if_pos hb] at hr
      exact Res.mk hr)
    all_goals try (
      have hb : ¬ badR (recR 1) l (es.getD j (Elem.mk 0 [] [] : Elem)) := by
        unfold badR
        have hrec : recR 1 (es.getD j (Elem.mk 0 [] [] : Elem)).elems = true := ‹_›
        rintro (h | h | h | h | h)
        · omega
        · omega
        · omega
        · omega
        · rw [hrec] at h; cases h
      rw [if_neg hb] at hr
      exact ⟨⟨j + 1, _, rfl, by omega, by rw [wrap64] <;> omega, hr⟩, by rw [wrap64] <;> omega⟩)
    all_goals try (
      rw [List.drop_of_length_le (by omega), rightGo] at hr
      exact Res.mk hr)
    all_goals trace_state
    all_goals sorry
  · exact h.fail.elim

end Go.Proofs.Ythbmllekbbfobaa.Sx
