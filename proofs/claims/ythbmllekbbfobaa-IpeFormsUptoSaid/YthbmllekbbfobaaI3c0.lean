import Derived.Test.YthbmllekbbfobaaProg
import Derived.Test.YthbmllekbbfobaaSxU
import Derived.IntWalk
import Derived.Test.YthbmllekbbfobaaI3r
/-! tlv, Find -/
namespace Go.Proofs.Ythbmllekbbfobaa.Sx
open Go
set_option linter.unusedVariables false
set_option linter.unusedSimpArgs false
set_option maxRecDepth 100000

def T_slices_Equal_byte_byte : TT := [(3, ⟨.int .i64, 1, 8, [.int .i64 0], some .int⟩),
  (4, ⟨.bool, 1, 1, [.bool false], some .bool⟩),
  (5, ⟨.int .u8, 1, 1, [.int .u8 0], some .u8⟩),
  (25, ⟨.slice 5, 1, 24, [.slice none 0 0], none⟩)]
theorem tOk_slices_Equal_byte_byte : TOk Try.prog T_slices_Equal_byte_byte := tOk_of (by kernel_rfl)
def sp_slices_Equal_byte_byte : Spec := fun args hp => match args, hp with
  | [.slF 0, .slF 1], [(0, .row o_a .u8 a), (1, .row o_b .u8 b)] => .vc (a.length ≤ 1099511627776 ∧ b.length ≤ 1099511627776) (bv (decide (a = b))) []
  | [.slF 0, .slP 1 b_i b_n], [(0, .row o_a .u8 a), (1, .row o_b .u8 b)] => .vc (a.length ≤ 1099511627776 ∧ ((b.drop b_i).take b_n).length ≤ 1099511627776) (bv (decide (a = ((b.drop b_i).take b_n)))) []
  | _, _ => .fail "slices_Equal_byte_byte"
abbrev k_slices_Equal_byte_byte : List (Option RK) := [some .u8, some .u8]
def a_slices_Equal_byte_byte : List SV → List (Nat × VB) → Anns := fun args hp => match args, hp with
  | [.slF 0, .slF 1], [(0, .row o_a .u8 a), (1, .row o_b .u8 b)] => [(4, fun S => .inv [] [] [] fun ids vs rs => { cars := [.i 13 .i64], inv := fun ((i, _) : Int × Unit) => ISm a b i, mu := fun ((i, _) : Int × Unit) => a.length - i.toNat })]
  | [.slF 0, .slP 1 b_i b_n], [(0, .row o_a .u8 a), (1, .row o_b .u8 b)] => [(4, fun S => .inv [] [] [] fun ids vs rs => { cars := [.i 13 .i64], inv := fun ((i, _) : Int × Unit) => ISm a ((b.drop b_i).take b_n) i, mu := fun ((i, _) : Int × Unit) => a.length - i.toNat })]
  | _, _ => []
set_option maxHeartbeats 20000000 in
theorem ok_slices_Equal_byte_byte : GOk Try.prog 120 (lift k_slices_Equal_byte_byte sp_slices_Equal_byte_byte) := by
  refine pf_ok (T := T_slices_Equal_byte_byte) (Γ := []) tOk_slices_Equal_byte_byte (gOks_nil _) mixed Try.func120 (c := body Try.f120) (by kernel_rfl) (by kernel_rfl) k_slices_Equal_byte_byte sp_slices_Equal_byte_byte (by kernel_rfl) (by kernel_rfl) a_slices_Equal_byte_byte ?_
  intro args hp s u hfit h
  unfold sp_slices_Equal_byte_byte at h
  split at h
  · rename_i o_a a o_b b
    obtain ⟨hvc, rfl, rfl⟩ := h.vc
    clear h hfit
    change List Int at a
    change List Int at b
    conv => whnf
    repeat' (first
      | (refine And.intro ?_ ?_ <;> try conv => whnf)
      | (intro hh; first | (cases hh; done) | conv => whnf))
    all_goals try first | rfl | kernel_rfl
    all_goals try simp only [decide_eq_true_eq, decide_eq_false_iff_not] at *
    all_goals try simp only [Key_eta, Share_eta, Journey_eta, Batch_eta, FieldT_eta, OpB_eta, Product_eta, Item_eta, Delta_eta, Elem_eta, Rule_eta, Do10_eta, Key_beq, Share_beq, Journey_beq, FieldT_beq, Product_beq, Item_beq, Do10_beq, toNat0, toNat1, toNat2, toNat3, toNat4, toNat5, toNat6, toNat7, toNat8, toNat9, toNat10, toNat11, toNat12, toNat13, toNat14, toNat15, toNat16, toNat17, toNat18, toNat19, iA, iOf, atS, rwA, castK, zK, true_and, and_true, decide_eq_true_eq, decide_eq_false_iff_not, beq_iff_eq, bne_iff_ne, beq_eq_false_iff_ne, bne_eq_false_iff_eq, Bool.not_eq_true', Bool.not_eq_false', Bool.not_eq_true, Bool.not_eq_false, Nat.succ_eq_add_one, Int.not_lt, Int.not_le, gt_iff_lt, ge_iff_le, show bytesS T_slices_Equal_byte_byte 25 = 1 from rfl] at *
    all_goals obtain ⟨hL, hL'⟩ := hvc
    all_goals try (
      have hex := ‹ISm _ _ _›
      obtain ⟨j, hj, rfl, hs⟩ := hex
      (try simp only [Int.toNat_natCast] at *))
    all_goals try (refine Vc.mk ?_; omega)
    · exact Res.mk (by rw [eq_comm, decide_eq_false_iff_not]; intro h; subst h; exact absurd rfl ‹_›)
    · exact ⟨⟨0, Nat.zero_le _, rfl, rfl⟩⟩
    · refine Res.mk ?_
      rw [eq_comm, decide_eq_false_iff_not]
      intro h
      subst h
      exact absurd rfl ‹_›
    · have hlt : j < a.length := by omega
      refine ⟨⟨j + 1, by omega, by rw [wrap64] <;> omega, ?_⟩, by rw [wrap64] <;> omega⟩
      rw [take_getD (d := (0 : Int)) hlt, take_getD (d := (0 : Int)) (by omega), hs]
      congr 2
      (try assumption)
    · refine Res.mk ?_
      rw [eq_comm, decide_eq_true_eq]
      rw [List.take_of_length_le (by omega), List.take_of_length_le (by omega)] at hs
      exact hs
  · rename_i b_i b_n o_a a o_b b
    obtain ⟨hvc, rfl, rfl⟩ := h.vc
    clear h
    change List Int at a
    change List Int at b
    conv => whnf
    repeat' (first
      | (refine And.intro ?_ ?_ <;> try conv => whnf)
      | (intro hh; first | (cases hh; done) | conv => whnf))
    all_goals try first | rfl | kernel_rfl
    all_goals try simp only [decide_eq_true_eq, decide_eq_false_iff_not] at *
    all_goals try simp only [Key_eta, Share_eta, Journey_eta, Batch_eta, FieldT_eta, OpB_eta, Product_eta, Item_eta, Delta_eta, Elem_eta, Rule_eta, Do10_eta, Key_beq, Share_beq, Journey_beq, FieldT_beq, Product_beq, Item_beq, Do10_beq, toNat0, toNat1, toNat2, toNat3, toNat4, toNat5, toNat6, toNat7, toNat8, toNat9, toNat10, toNat11, toNat12, toNat13, toNat14, toNat15, toNat16, toNat17, toNat18, toNat19, iA, iOf, atS, rwA, castK, zK, true_and, and_true, decide_eq_true_eq, decide_eq_false_iff_not, beq_iff_eq, bne_iff_ne, beq_eq_false_iff_ne, bne_eq_false_iff_eq, Bool.not_eq_true', Bool.not_eq_false', Bool.not_eq_true, Bool.not_eq_false, Nat.succ_eq_add_one, Int.not_lt, Int.not_le, gt_iff_lt, ge_iff_le, show bytesS T_slices_Equal_byte_byte 25 = 1 from rfl] at *
    all_goals (
      have hf : b_n = 0 ∨ b_i + b_n ≤ b.length := hfit.2.1
      have hfn : ((b.drop b_i).take b_n).length = b_n := by
        rw [List.length_take, List.length_drop]
        omega
      have hge : ∀ i, i < b_n → ((b.drop b_i).take b_n).getD i 0 = b.getD (b_i + i) 0 := fun i hi => getD_take_drop hi)
    all_goals generalize hbb : ((b.drop b_i).take b_n) = bb at *
    all_goals subst hfn
    all_goals obtain ⟨hL, hL'⟩ := hvc
    all_goals try (
      have hex := ‹ISm _ _ _›
      obtain ⟨j, hj, rfl, hs⟩ := hex
      (try simp only [Int.toNat_natCast] at *))
    all_goals try (
      have hjb : j < bb.length := by omega
      have he := hge j hjb
      have hz : ((b_i : Int) + (j : Int)).toNat = b_i + j := by omega
      simp only [hz, ← he] at *)
    all_goals try (refine Vc.mk ?_; omega)
    · exact Res.mk (by rw [eq_comm, decide_eq_false_iff_not]; intro h; subst h; exact absurd rfl ‹_›)
    · exact ⟨⟨0, Nat.zero_le _, rfl, rfl⟩⟩
    · refine Res.mk ?_
      rw [eq_comm, decide_eq_false_iff_not]
      intro h
      subst h
      exact absurd rfl ‹_›
    · have hlt : j < a.length := by omega
      refine ⟨⟨j + 1, by omega, by rw [wrap64] <;> omega, ?_⟩, by rw [wrap64] <;> omega⟩
      rw [take_getD (d := (0 : Int)) hlt, take_getD (d := (0 : Int)) (by omega), hs]
      congr 2
      (try assumption)
    · refine Res.mk ?_
      rw [eq_comm, decide_eq_true_eq]
      rw [List.take_of_length_le (by omega), List.take_of_length_le (by omega)] at hs
      exact hs
  · exact h.fail.elim

def T_tlv_Int : TT := [(3, ⟨.int .i64, 1, 8, [.int .i64 0], some .int⟩),
  (4, ⟨.bool, 1, 1, [.bool false], some .bool⟩),
  (5, ⟨.int .u8, 1, 1, [.int .u8 0], some .u8⟩),
  (25, ⟨.slice 5, 1, 24, [.slice none 0 0], none⟩),
  (27, ⟨.int .i64, 1, 8, [.int .i64 0], some .int⟩)]
theorem tOk_tlv_Int : TOk Try.prog T_tlv_Int := tOk_of (by kernel_rfl)
def sp_tlv_Int : Spec := fun args hp => match args, hp with
  | [.slF 0], [(0, .row o_b .u8 b)] => .vc (isB b ∧ b.length ≤ 1048576) (.tup [iv (intV b), iv (intE b)]) []
  | _, _ => .fail "tlv_Int"
abbrev k_tlv_Int : List (Option RK) := [some .u8]
def a_tlv_Int : List SV → List (Nat × VB) → Anns := fun args hp => match args, hp with
  | [.slF 0], [(0, .row o_b .u8 b)] => [(7, fun S => .inv [] [] [] fun ids vs rs => { cars := [.i 23 .i64, .i 4 .i64], inv := fun ((i, n, _) : Int × Int × Unit) => IIn_ b i n, mu := fun ((i, n, _) : Int × Int × Unit) => b.length - i.toNat })]
  | _, _ => []
set_option maxHeartbeats 20000000 in
theorem ok_tlv_Int : GOk Try.prog 119 (lift k_tlv_Int sp_tlv_Int) := by
  refine pf_ok (T := T_tlv_Int) (Γ := []) tOk_tlv_Int (gOks_nil _) mixed Try.func119 (c := body Try.f119) (by kernel_rfl) (by kernel_rfl) k_tlv_Int sp_tlv_Int (by kernel_rfl) (by kernel_rfl) a_tlv_Int ?_
  intro args hp s u hfit h
  unfold sp_tlv_Int at h
  split at h
  · rename_i o_b b
    obtain ⟨hvc, rfl, rfl⟩ := h.vc
    clear h hfit
    change List Int at b
    conv => whnf
    repeat' (first
      | (refine And.intro ?_ ?_ <;> try conv => whnf)
      | (intro hh; first | (cases hh; done) | conv => whnf))
    all_goals try first | rfl | kernel_rfl
    all_goals try simp only [decide_eq_true_eq, decide_eq_false_iff_not] at *
    all_goals try simp only [Key_eta, Share_eta, Journey_eta, Batch_eta, FieldT_eta, OpB_eta, Product_eta, Item_eta, Delta_eta, Elem_eta, Rule_eta, Do10_eta, Key_beq, Share_beq, Journey_beq, FieldT_beq, Product_beq, Item_beq, Do10_beq, toNat0, toNat1, toNat2, toNat3, toNat4, toNat5, toNat6, toNat7, toNat8, toNat9, toNat10, toNat11, toNat12, toNat13, toNat14, toNat15, toNat16, toNat17, toNat18, toNat19, iA, iOf, atS, rwA, castK, zK, true_and, and_true, decide_eq_true_eq, decide_eq_false_iff_not, beq_iff_eq, bne_iff_ne, beq_eq_false_iff_ne, bne_eq_false_iff_eq, Bool.not_eq_true', Bool.not_eq_false', Bool.not_eq_true, Bool.not_eq_false, Nat.succ_eq_add_one, Int.not_lt, Int.not_le, gt_iff_lt, ge_iff_le, show bytesS T_tlv_Int 25 = 1 from rfl] at *
    all_goals obtain ⟨hB, hL⟩ := hvc
    all_goals try (
      have hex := ‹IIn_ _ _ _›
      obtain ⟨j, hj, rfl, rfl⟩ := hex
      try simp only [Int.toNat_natCast] at *)
    all_goals try (refine Vc.mk ?_; first | decide | omega)
    all_goals try (
      have h11 : intE b = 11 := if_pos (by omega)
      exact Res.mk (by simp [intV, h11]))
    all_goals try (
      have h12 : intE b = 12 := by unfold intE; rw [if_neg (by omega), if_pos (by omega)]
      exact Res.mk (by simp [intV, h12]))
    all_goals try (exact ⟨⟨0, Nat.zero_le _, rfl, rfl⟩⟩)
    all_goals try (
      have h0 : intE b = 0 := by unfold intE; rw [if_neg (by omega), if_neg (by omega)]
      obtain rfl : j = b.length
      · omega
      rw [List.take_length]
      exact Res.mk (by simp [intV, h0]))
    all_goals (
      have hx := hB.getD j
      have hn := num_lt (hB.take j)
      have hj6 : j ≤ 6 := by omega
      have hb : num (b.take j) < 36028797018963968 := by
        refine Int.lt_of_lt_of_le hn.2 ?_
        rw [List.length_take]
        have hc : min j b.length = 0 ∨ min j b.length = 1 ∨ min j b.length = 2 ∨ min j b.length = 3 ∨ min j b.length = 4 ∨ min j b.length = 5 ∨ min j b.length = 6 := by omega
        rcases hc with e | e | e | e | e | e | e <;> rw [e] <;> decide
      refine ⟨⟨j + 1, by omega, by rw [wrap64] <;> omega, ?_⟩, by rw [wrap64] <;> omega⟩
      rw [or8 hn.1 hb hx.1 hx.2, take_succ (by omega), num_snoc])
  · exact h.fail.elim

def T_slices_Clone_api_Elem_api_Elem : TT := [(3, ⟨.int .i64, 1, 8, [.int .i64 0], some .int⟩),
  (4, ⟨.bool, 1, 1, [.bool false], some .bool⟩),
  (5, ⟨.int .u8, 1, 1, [.int .u8 0], some .u8⟩),
  (25, ⟨.slice 5, 1, 24, [.slice none 0 0], none⟩),
  (158, ⟨.slice 160, 1, 24, [.slice none 0 0], none⟩),
  (160, ⟨.strct [(0, 3), (1, 25), (2, 158)], 3, 56, [.int .i64 0, .slice none 0 0, .slice none 0 0], some .elem⟩)]
theorem tOk_slices_Clone_api_Elem_api_Elem : TOk Try.prog T_slices_Clone_api_Elem_api_Elem := tOk_of (by kernel_rfl)
def sp_slices_Clone_api_Elem_api_Elem : Spec := fun args hp => match args, hp with
  | [.slF 0], [(0, .row o_b .elem b)] => .vc (b.length ≤ 1048576) (.slF 2000) [(2000, some (.row true .elem b))]
  | _, _ => .fail "slices_Clone_api_Elem_api_Elem"
abbrev k_slices_Clone_api_Elem_api_Elem : List (Option RK) := [some .elem]
def a_slices_Clone_api_Elem_api_Elem : List SV → List (Nat × VB) → Anns := fun _ _ => []
set_option maxHeartbeats 20000000 in
theorem ok_slices_Clone_api_Elem_api_Elem : GOk Try.prog 155 (lift k_slices_Clone_api_Elem_api_Elem sp_slices_Clone_api_Elem_api_Elem) := by
  refine pf_ok (T := T_slices_Clone_api_Elem_api_Elem) (Γ := []) tOk_slices_Clone_api_Elem_api_Elem (gOks_nil _) mixed Try.func155 (c := body Try.f155) (by kernel_rfl) (by kernel_rfl) k_slices_Clone_api_Elem_api_Elem sp_slices_Clone_api_Elem_api_Elem (by kernel_rfl) (by kernel_rfl) a_slices_Clone_api_Elem_api_Elem ?_
  intro args hp s u hfit h
  unfold sp_slices_Clone_api_Elem_api_Elem at h
  split at h
  · rename_i o_b b
    obtain ⟨hvc, rfl, rfl⟩ := h.vc
    clear h hfit
    change List Elem at b
    conv => whnf
    repeat' (first
      | (refine And.intro ?_ ?_ <;> try conv => whnf)
      | (intro hh; first | (cases hh; done) | conv => whnf))
    all_goals try first | rfl | kernel_rfl
    all_goals try simp only [decide_eq_true_eq, decide_eq_false_iff_not] at *
    all_goals try simp only [Key_eta, Share_eta, Journey_eta, Batch_eta, FieldT_eta, OpB_eta, Product_eta, Item_eta, Delta_eta, Elem_eta, Rule_eta, Do10_eta, Key_beq, Share_beq, Journey_beq, FieldT_beq, Product_beq, Item_beq, Do10_beq, toNat0, toNat1, toNat2, toNat3, toNat4, toNat5, toNat6, toNat7, toNat8, toNat9, toNat10, toNat11, toNat12, toNat13, toNat14, toNat15, toNat16, toNat17, toNat18, toNat19, iA, iOf, atS, rwA, castK, zK, true_and, and_true, decide_eq_true_eq, decide_eq_false_iff_not, beq_iff_eq, bne_iff_ne, beq_eq_false_iff_ne, bne_eq_false_iff_eq, Bool.not_eq_true', Bool.not_eq_false', Bool.not_eq_true, Bool.not_eq_false, Nat.succ_eq_add_one, Int.not_lt, Int.not_le, gt_iff_lt, ge_iff_le, show bytesS T_slices_Clone_api_Elem_api_Elem 25 = 1 from rfl, show bytesS T_slices_Clone_api_Elem_api_Elem 158 = 56 from rfl] at *
    all_goals first
      | (refine Vc.mk ?_; simp only [List.length_nil]; omega)
      | (refine Res.mk ?_; exact List.nil_append _)
      | (refine Res.mk ?_; (have hl := ‹_ = true → _› ‹(bif false then !_ else _) = true›); first | exact (List.eq_nil_of_length_eq_zero hl).symm | (rw [hl, List.take_zero]))
  · exact h.fail.elim

def T_tlv_copiedS0 : TT := [(3, ⟨.int .i64, 1, 8, [.int .i64 0], some .int⟩),
  (5, ⟨.int .u8, 1, 1, [.int .u8 0], some .u8⟩),
  (25, ⟨.slice 5, 1, 24, [.slice none 0 0], none⟩),
  (158, ⟨.slice 160, 1, 24, [.slice none 0 0], none⟩),
  (160, ⟨.strct [(0, 3), (1, 25), (2, 158)], 3, 56, [.int .i64 0, .slice none 0 0, .slice none 0 0], some .elem⟩)]
theorem tOk_tlv_copiedS0 : TOk Try.prog T_tlv_copiedS0 := tOk_of (by kernel_rfl)
def sp_tlv_copiedS0 : Spec := fun args hp => match args, hp with
  | [.agg [.val (.int .i64 e_tag), .slF 0, .slF 1]], [(0, .row o_e_bytes .u8 e_bytes), (1, .row o_e_elems .elem e_elems)] => .vc (hE 0 (⟨e_tag, e_bytes, e_elems⟩ : Elem).elems ∧ lE 0 (⟨e_tag, e_bytes, e_elems⟩ : Elem).elems ∧ (⟨e_tag, e_bytes, e_elems⟩ : Elem).bytes.length ≤ 1048576) (.agg [iv (⟨e_tag, e_bytes, e_elems⟩ : Elem).tag, .slF 2000, .slF 2001]) [(2000, some (.row true .u8 (⟨e_tag, e_bytes, e_elems⟩ : Elem).bytes)), (2001, some (.row true .elem (⟨e_tag, e_bytes, e_elems⟩ : Elem).elems))]
  | _, _ => .fail "tlv_copiedS0"
abbrev k_tlv_copiedS0 : List (Option RK) := [none]
def a_tlv_copiedS0 : List SV → List (Nat × VB) → Anns := fun args hp => match args, hp with
  | [.agg [.val (.int .i64 e_tag), .slF 0, .slF 1]], [(0, .row o_e_bytes .u8 e_bytes), (1, .row o_e_elems .elem e_elems)] => [(3, fun S => .inv [pOf (cellOf S (pOf (S.get 1)) 2)] [] [] fun ids vs rs => { cars := [.i 15 .i64, .row (atN ids 0) true .elem], inv := fun ((i, xs, _) : Int × List Elem × Unit) => ICp e_elems i xs, mu := fun ((i, xs, _) : Int × List Elem × Unit) => e_elems.length - i.toNat })]
  | _, _ => []
set_option maxHeartbeats 20000000 in
theorem ok_tlv_copiedS0 : GOk Try.prog 148 (lift k_tlv_copiedS0 sp_tlv_copiedS0) := by
  refine pf_ok (T := T_tlv_copiedS0) (Γ := (113, lift k_slices_Clone_byte_byte sp_slices_Clone_byte_byte) :: (155, lift k_slices_Clone_api_Elem_api_Elem sp_slices_Clone_api_Elem_api_Elem) :: []) tOk_tlv_copiedS0 (gOks_cons ok_slices_Clone_byte_byte (gOks_cons ok_slices_Clone_api_Elem_api_Elem (gOks_nil _))) mixed Try.func148 (c := body Try.f148) (by kernel_rfl) (by kernel_rfl) k_tlv_copiedS0 sp_tlv_copiedS0 (by kernel_rfl) (by kernel_rfl) a_tlv_copiedS0 ?_
  intro args hp s u hfit h
  unfold sp_tlv_copiedS0 at h
  split at h
  · rename_i e_tag o_e_bytes e_bytes o_e_elems e_elems
    obtain ⟨hvc, rfl, rfl⟩ := h.vc
    clear h hfit
    conv => whnf
    repeat' (first
      | (refine And.intro ?_ ?_ <;> try conv => whnf)
      | (intro hh; first | (cases hh; done) | conv => whnf))
    all_goals try first | rfl | kernel_rfl
    all_goals try simp only [decide_eq_true_eq, decide_eq_false_iff_not] at *
    all_goals try simp only [Key_eta, Share_eta, Journey_eta, Batch_eta, FieldT_eta, OpB_eta, Product_eta, Item_eta, Delta_eta, Elem_eta, Rule_eta, Do10_eta, Key_beq, Share_beq, Journey_beq, FieldT_beq, Product_beq, Item_beq, Do10_beq, toNat0, toNat1, toNat2, toNat3, toNat4, toNat5, toNat6, toNat7, toNat8, toNat9, toNat10, toNat11, toNat12, toNat13, toNat14, toNat15, toNat16, toNat17, toNat18, toNat19, iA, iOf, atS, rwA, castK, zK, true_and, and_true, decide_eq_true_eq, decide_eq_false_iff_not, beq_iff_eq, bne_iff_ne, beq_eq_false_iff_ne, bne_eq_false_iff_eq, Bool.not_eq_true', Bool.not_eq_false', Bool.not_eq_true, Bool.not_eq_false, Nat.succ_eq_add_one, Int.not_lt, Int.not_le, gt_iff_lt, ge_iff_le, show bytesS T_tlv_copiedS0 25 = 1 from rfl, show bytesS T_tlv_copiedS0 158 = 56 from rfl] at *
    all_goals obtain ⟨hH, hl, hb⟩ := hvc
    all_goals change hE 0 e_elems at hH
    all_goals change lE 0 e_elems at hl
    all_goals change e_bytes.length ≤ _ at hb
    all_goals have hlen : e_elems.length ≤ 1048576 := hl
    all_goals try (
      have hex := ‹ICp _ _ _›
      obtain ⟨j, hj, rfl, rfl⟩ := hex
      try simp only [Int.toNat_natCast] at *)
    all_goals try (refine Vc.mk ?_; first | omega | exact hlen)
    all_goals try (
      exfalso
      have h0 : e_elems.length = 0 := List.length_eq_zero_iff.2 hH
      omega)
    all_goals try (exact ⟨⟨0, Nat.zero_le _, rfl, rfl⟩⟩)
    all_goals try (
      have hm := mem_getD (d := (Elem.mk 0 [] [] : Elem)) (l := e_elems) (j := j) (by omega)
      exact Vc.mk ⟨hH _ hm, (hl.2 _ hm).2, (hl.2 _ hm).1⟩)
    all_goals try (
      rw [set_getD (d := (Elem.mk 0 [] [] : Elem)) (by omega)]
      exact ⟨⟨j + 1, by omega, by rw [wrap64] <;> omega, rfl⟩, by rw [wrap64] <;> omega⟩)
    all_goals first | exact Res.mk rfl | exact Res.mk trivial | (refine Res.mk ?_; exact ⟨rfl, rfl⟩) | (trace_state; sorry)
  · exact h.fail.elim

def T_tlv_copiedS1 : TT := [(3, ⟨.int .i64, 1, 8, [.int .i64 0], some .int⟩),
  (5, ⟨.int .u8, 1, 1, [.int .u8 0], some .u8⟩),
  (25, ⟨.slice 5, 1, 24, [.slice none 0 0], none⟩),
  (158, ⟨.slice 160, 1, 24, [.slice none 0 0], none⟩),
  (160, ⟨.strct [(0, 3), (1, 25), (2, 158)], 3, 56, [.int .i64 0, .slice none 0 0, .slice none 0 0], some .elem⟩)]
theorem tOk_tlv_copiedS1 : TOk Try.prog T_tlv_copiedS1 := tOk_of (by kernel_rfl)
def sp_tlv_copiedS1 : Spec := fun args hp => match args, hp with
  | [.agg [.val (.int .i64 e_tag), .slF 0, .slF 1]], [(0, .row o_e_bytes .u8 e_bytes), (1, .row o_e_elems .elem e_elems)] => .vc (hE 1 (⟨e_tag, e_bytes, e_elems⟩ : Elem).elems ∧ lE 1 (⟨e_tag, e_bytes, e_elems⟩ : Elem).elems ∧ (⟨e_tag, e_bytes, e_elems⟩ : Elem).bytes.length ≤ 1048576) (.agg [iv (⟨e_tag, e_bytes, e_elems⟩ : Elem).tag, .slF 2000, .slF 2001]) [(2000, some (.row true .u8 (⟨e_tag, e_bytes, e_elems⟩ : Elem).bytes)), (2001, some (.row true .elem (⟨e_tag, e_bytes, e_elems⟩ : Elem).elems))]
  | _, _ => .fail "tlv_copiedS1"
abbrev k_tlv_copiedS1 : List (Option RK) := [none]
def a_tlv_copiedS1 : List SV → List (Nat × VB) → Anns := fun args hp => match args, hp with
  | [.agg [.val (.int .i64 e_tag), .slF 0, .slF 1]], [(0, .row o_e_bytes .u8 e_bytes), (1, .row o_e_elems .elem e_elems)] => [(3, fun S => .inv [pOf (cellOf S (pOf (S.get 1)) 2)] [] [] fun ids vs rs => { cars := [.i 15 .i64, .row (atN ids 0) true .elem], inv := fun ((i, xs, _) : Int × List Elem × Unit) => ICp e_elems i xs, mu := fun ((i, xs, _) : Int × List Elem × Unit) => e_elems.length - i.toNat })]
  | _, _ => []
set_option maxHeartbeats 20000000 in
theorem ok_tlv_copiedS1 : GOk Try.prog 148 (lift k_tlv_copiedS1 sp_tlv_copiedS1) := by
  refine pf_ok (T := T_tlv_copiedS1) (Γ := (113, lift k_slices_Clone_byte_byte sp_slices_Clone_byte_byte) :: (155, lift k_slices_Clone_api_Elem_api_Elem sp_slices_Clone_api_Elem_api_Elem) :: (148, lift k_tlv_copiedS0 sp_tlv_copiedS0) :: []) tOk_tlv_copiedS1 (gOks_cons ok_slices_Clone_byte_byte (gOks_cons ok_slices_Clone_api_Elem_api_Elem (gOks_cons ok_tlv_copiedS0 (gOks_nil _)))) mixed Try.func148 (c := body Try.f148) (by kernel_rfl) (by kernel_rfl) k_tlv_copiedS1 sp_tlv_copiedS1 (by kernel_rfl) (by kernel_rfl) a_tlv_copiedS1 ?_
  intro args hp s u hfit h
  unfold sp_tlv_copiedS1 at h
  split at h
  · rename_i e_tag o_e_bytes e_bytes o_e_elems e_elems
    obtain ⟨hvc, rfl, rfl⟩ := h.vc
    clear h hfit
    conv => whnf
    repeat' (first
      | (refine And.intro ?_ ?_ <;> try conv => whnf)
      | (intro hh; first | (cases hh; done) | conv => whnf))
    all_goals try first | rfl | kernel_rfl
    all_goals try simp only [decide_eq_true_eq, decide_eq_false_iff_not] at *
    all_goals try simp only [Key_eta, Share_eta, Journey_eta, Batch_eta, FieldT_eta, OpB_eta, Product_eta, Item_eta, Delta_eta, Elem_eta, Rule_eta, Do10_eta, Key_beq, Share_beq, Journey_beq, FieldT_beq, Product_beq, Item_beq, Do10_beq, toNat0, toNat1, toNat2, toNat3, toNat4, toNat5, toNat6, toNat7, toNat8, toNat9, toNat10, toNat11, toNat12, toNat13, toNat14, toNat15, toNat16, toNat17, toNat18, toNat19, iA, iOf, atS, rwA, castK, zK, true_and, and_true, decide_eq_true_eq, decide_eq_false_iff_not, beq_iff_eq, bne_iff_ne, beq_eq_false_iff_ne, bne_eq_false_iff_eq, Bool.not_eq_true', Bool.not_eq_false', Bool.not_eq_true, Bool.not_eq_false, Nat.succ_eq_add_one, Int.not_lt, Int.not_le, gt_iff_lt, ge_iff_le, show bytesS T_tlv_copiedS1 25 = 1 from rfl, show bytesS T_tlv_copiedS1 158 = 56 from rfl] at *
    all_goals obtain ⟨hH, hl, hb⟩ := hvc
    all_goals change hE 1 e_elems at hH
    all_goals change lE 1 e_elems at hl
    all_goals change e_bytes.length ≤ _ at hb
    all_goals have hlen : e_elems.length ≤ 1048576 := hl.1
    all_goals try (
      have hex := ‹ICp _ _ _›
      obtain ⟨j, hj, rfl, rfl⟩ := hex
      try simp only [Int.toNat_natCast] at *)
    all_goals try (refine Vc.mk ?_; first | omega | exact hlen)
    all_goals try (exact ⟨⟨0, Nat.zero_le _, rfl, rfl⟩⟩)
    all_goals try (
      have hm := mem_getD (d := (Elem.mk 0 [] [] : Elem)) (l := e_elems) (j := j) (by omega)
      exact Vc.mk ⟨hH _ hm, (hl.2 _ hm).2, (hl.2 _ hm).1⟩)
    all_goals try (
      rw [set_getD (d := (Elem.mk 0 [] [] : Elem)) (by omega)]
      exact ⟨⟨j + 1, by omega, by rw [wrap64] <;> omega, rfl⟩, by rw [wrap64] <;> omega⟩)
    all_goals first | exact Res.mk rfl | exact Res.mk trivial | (refine Res.mk ?_; exact ⟨rfl, rfl⟩) | (trace_state; sorry)
  · exact h.fail.elim

def T_tlv_copiedS2 : TT := [(3, ⟨.int .i64, 1, 8, [.int .i64 0], some .int⟩),
  (5, ⟨.int .u8, 1, 1, [.int .u8 0], some .u8⟩),
  (25, ⟨.slice 5, 1, 24, [.slice none 0 0], none⟩),
  (158, ⟨.slice 160, 1, 24, [.slice none 0 0], none⟩),
  (160, ⟨.strct [(0, 3), (1, 25), (2, 158)], 3, 56, [.int .i64 0, .slice none 0 0, .slice none 0 0], some .elem⟩)]
theorem tOk_tlv_copiedS2 : TOk Try.prog T_tlv_copiedS2 := tOk_of (by kernel_rfl)
def sp_tlv_copiedS2 : Spec := fun args hp => match args, hp with
  | [.agg [.val (.int .i64 e_tag), .slF 0, .slF 1]], [(0, .row o_e_bytes .u8 e_bytes), (1, .row o_e_elems .elem e_elems)] => .vc (hE 2 (⟨e_tag, e_bytes, e_elems⟩ : Elem).elems ∧ lE 2 (⟨e_tag, e_bytes, e_elems⟩ : Elem).elems ∧ (⟨e_tag, e_bytes, e_elems⟩ : Elem).bytes.length ≤ 1048576) (.agg [iv (⟨e_tag, e_bytes, e_elems⟩ : Elem).tag, .slF 2000, .slF 2001]) [(2000, some (.row true .u8 (⟨e_tag, e_bytes, e_elems⟩ : Elem).bytes)), (2001, some (.row true .elem (⟨e_tag, e_bytes, e_elems⟩ : Elem).elems))]
  | _, _ => .fail "tlv_copiedS2"
abbrev k_tlv_copiedS2 : List (Option RK) := [none]
def a_tlv_copiedS2 : List SV → List (Nat × VB) → Anns := fun args hp => match args, hp with
  | [.agg [.val (.int .i64 e_tag), .slF 0, .slF 1]], [(0, .row o_e_bytes .u8 e_bytes), (1, .row o_e_elems .elem e_elems)] => [(3, fun S => .inv [pOf (cellOf S (pOf (S.get 1)) 2)] [] [] fun ids vs rs => { cars := [.i 15 .i64, .row (atN ids 0) true .elem], inv := fun ((i, xs, _) : Int × List Elem × Unit) => ICp e_elems i xs, mu := fun ((i, xs, _) : Int × List Elem × Unit) => e_elems.length - i.toNat })]
  | _, _ => []
set_option maxHeartbeats 20000000 in
theorem ok_tlv_copiedS2 : GOk Try.prog 148 (lift k_tlv_copiedS2 sp_tlv_copiedS2) := by
  refine pf_ok (T := T_tlv_copiedS2) (Γ := (113, lift k_slices_Clone_byte_byte sp_slices_Clone_byte_byte) :: (155, lift k_slices_Clone_api_Elem_api_Elem sp_slices_Clone_api_Elem_api_Elem) :: (148, lift k_tlv_copiedS1 sp_tlv_copiedS1) :: []) tOk_tlv_copiedS2 (gOks_cons ok_slices_Clone_byte_byte (gOks_cons ok_slices_Clone_api_Elem_api_Elem (gOks_cons ok_tlv_copiedS1 (gOks_nil _)))) mixed Try.func148 (c := body Try.f148) (by kernel_rfl) (by kernel_rfl) k_tlv_copiedS2 sp_tlv_copiedS2 (by kernel_rfl) (by kernel_rfl) a_tlv_copiedS2 ?_
  intro args hp s u hfit h
  unfold sp_tlv_copiedS2 at h
  split at h
  · rename_i e_tag o_e_bytes e_bytes o_e_elems e_elems
    obtain ⟨hvc, rfl, rfl⟩ := h.vc
    clear h hfit
    conv => whnf
    repeat' (first
      | (refine And.intro ?_ ?_ <;> try conv => whnf)
      | (intro hh; first | (cases hh; done) | conv => whnf))
    all_goals try first | rfl | kernel_rfl
    all_goals try simp only [decide_eq_true_eq, decide_eq_false_iff_not] at *
    all_goals try simp only [Key_eta, Share_eta, Journey_eta, Batch_eta, FieldT_eta, OpB_eta, Product_eta, Item_eta, Delta_eta, Elem_eta, Rule_eta, Do10_eta, Key_beq, Share_beq, Journey_beq, FieldT_beq, Product_beq, Item_beq, Do10_beq, toNat0, toNat1, toNat2, toNat3, toNat4, toNat5, toNat6, toNat7, toNat8, toNat9, toNat10, toNat11, toNat12, toNat13, toNat14, toNat15, toNat16, toNat17, toNat18, toNat19, iA, iOf, atS, rwA, castK, zK, true_and, and_true, decide_eq_true_eq, decide_eq_false_iff_not, beq_iff_eq, bne_iff_ne, beq_eq_false_iff_ne, bne_eq_false_iff_eq, Bool.not_eq_true', Bool.not_eq_false', Bool.not_eq_true, Bool.not_eq_false, Nat.succ_eq_add_one, Int.not_lt, Int.not_le, gt_iff_lt, ge_iff_le, show bytesS T_tlv_copiedS2 25 = 1 from rfl, show bytesS T_tlv_copiedS2 158 = 56 from rfl] at *
    all_goals obtain ⟨hH, hl, hb⟩ := hvc
    all_goals change hE 2 e_elems at hH
    all_goals change lE 2 e_elems at hl
    all_goals change e_bytes.length ≤ _ at hb
    all_goals have hlen : e_elems.length ≤ 1048576 := hl.1
    all_goals try (
      have hex := ‹ICp _ _ _›
      obtain ⟨j, hj, rfl, rfl⟩ := hex
      try simp only [Int.toNat_natCast] at *)
    all_goals try (refine Vc.mk ?_; first | omega | exact hlen)
    all_goals try (exact ⟨⟨0, Nat.zero_le _, rfl, rfl⟩⟩)
    all_goals try (
      have hm := mem_getD (d := (Elem.mk 0 [] [] : Elem)) (l := e_elems) (j := j) (by omega)
      exact Vc.mk ⟨hH _ hm, (hl.2 _ hm).2, (hl.2 _ hm).1⟩)
    all_goals try (
      rw [set_getD (d := (Elem.mk 0 [] [] : Elem)) (by omega)]
      exact ⟨⟨j + 1, by omega, by rw [wrap64] <;> omega, rfl⟩, by rw [wrap64] <;> omega⟩)
    all_goals first | exact Res.mk rfl | exact Res.mk trivial | (refine Res.mk ?_; exact ⟨rfl, rfl⟩) | (trace_state; sorry)
  · exact h.fail.elim

def T_tlv_copiedS3 : TT := [(3, ⟨.int .i64, 1, 8, [.int .i64 0], some .int⟩),
  (5, ⟨.int .u8, 1, 1, [.int .u8 0], some .u8⟩),
  (25, ⟨.slice 5, 1, 24, [.slice none 0 0], none⟩),
  (158, ⟨.slice 160, 1, 24, [.slice none 0 0], none⟩),
  (160, ⟨.strct [(0, 3), (1, 25), (2, 158)], 3, 56, [.int .i64 0, .slice none 0 0, .slice none 0 0], some .elem⟩)]
theorem tOk_tlv_copiedS3 : TOk Try.prog T_tlv_copiedS3 := tOk_of (by kernel_rfl)
def sp_tlv_copiedS3 : Spec := fun args hp => match args, hp with
  | [.agg [.val (.int .i64 e_tag), .slF 0, .slF 1]], [(0, .row o_e_bytes .u8 e_bytes), (1, .row o_e_elems .elem e_elems)] => .vc (hE 3 (⟨e_tag, e_bytes, e_elems⟩ : Elem).elems ∧ lE 3 (⟨e_tag, e_bytes, e_elems⟩ : Elem).elems ∧ (⟨e_tag, e_bytes, e_elems⟩ : Elem).bytes.length ≤ 1048576) (.agg [iv (⟨e_tag, e_bytes, e_elems⟩ : Elem).tag, .slF 2000, .slF 2001]) [(2000, some (.row true .u8 (⟨e_tag, e_bytes, e_elems⟩ : Elem).bytes)), (2001, some (.row true .elem (⟨e_tag, e_bytes, e_elems⟩ : Elem).elems))]
  | _, _ => .fail "tlv_copiedS3"
abbrev k_tlv_copiedS3 : List (Option RK) := [none]
def a_tlv_copiedS3 : List SV → List (Nat × VB) → Anns := fun args hp => match args, hp with
  | [.agg [.val (.int .i64 e_tag), .slF 0, .slF 1]], [(0, .row o_e_bytes .u8 e_bytes), (1, .row o_e_elems .elem e_elems)] => [(3, fun S => .inv [pOf (cellOf S (pOf (S.get 1)) 2)] [] [] fun ids vs rs => { cars := [.i 15 .i64, .row (atN ids 0) true .elem], inv := fun ((i, xs, _) : Int × List Elem × Unit) => ICp e_elems i xs, mu := fun ((i, xs, _) : Int × List Elem × Unit) => e_elems.length - i.toNat })]
  | _, _ => []
set_option maxHeartbeats 20000000 in
theorem ok_tlv_copiedS3 : GOk Try.prog 148 (lift k_tlv_copiedS3 sp_tlv_copiedS3) := by
  refine pf_ok (T := T_tlv_copiedS3) (Γ := (113, lift k_slices_Clone_byte_byte sp_slices_Clone_byte_byte) :: (155, lift k_slices_Clone_api_Elem_api_Elem sp_slices_Clone_api_Elem_api_Elem) :: (148, lift k_tlv_copiedS2 sp_tlv_copiedS2) :: []) tOk_tlv_copiedS3 (gOks_cons ok_slices_Clone_byte_byte (gOks_cons ok_slices_Clone_api_Elem_api_Elem (gOks_cons ok_tlv_copiedS2 (gOks_nil _)))) mixed Try.func148 (c := body Try.f148) (by kernel_rfl) (by kernel_rfl) k_tlv_copiedS3 sp_tlv_copiedS3 (by kernel_rfl) (by kernel_rfl) a_tlv_copiedS3 ?_
  intro args hp s u hfit h
  unfold sp_tlv_copiedS3 at h
  split at h
  · rename_i e_tag o_e_bytes e_bytes o_e_elems e_elems
    obtain ⟨hvc, rfl, rfl⟩ := h.vc
    clear h hfit
    conv => whnf
    repeat' (first
      | (refine And.intro ?_ ?_ <;> try conv => whnf)
      | (intro hh; first | (cases hh; done) | conv => whnf))
    all_goals try first | rfl | kernel_rfl
    all_goals try simp only [decide_eq_true_eq, decide_eq_false_iff_not] at *
    all_goals try simp only [Key_eta, Share_eta, Journey_eta, Batch_eta, FieldT_eta, OpB_eta, Product_eta, Item_eta, Delta_eta, Elem_eta, Rule_eta, Do10_eta, Key_beq, Share_beq, Journey_beq, FieldT_beq, Product_beq, Item_beq, Do10_beq, toNat0, toNat1, toNat2, toNat3, toNat4, toNat5, toNat6, toNat7, toNat8, toNat9, toNat10, toNat11, toNat12, toNat13, toNat14, toNat15, toNat16, toNat17, toNat18, toNat19, iA, iOf, atS, rwA, castK, zK, true_and, and_true, decide_eq_true_eq, decide_eq_false_iff_not, beq_iff_eq, bne_iff_ne, beq_eq_false_iff_ne, bne_eq_false_iff_eq, Bool.not_eq_true', Bool.not_eq_false', Bool.not_eq_true, Bool.not_eq_false, Nat.succ_eq_add_one, Int.not_lt, Int.not_le, gt_iff_lt, ge_iff_le, show bytesS T_tlv_copiedS3 25 = 1 from rfl, show bytesS T_tlv_copiedS3 158 = 56 from rfl] at *
    all_goals obtain ⟨hH, hl, hb⟩ := hvc
    all_goals change hE 3 e_elems at hH
    all_goals change lE 3 e_elems at hl
    all_goals change e_bytes.length ≤ _ at hb
    all_goals have hlen : e_elems.length ≤ 1048576 := hl.1
    all_goals try (
      have hex := ‹ICp _ _ _›
      obtain ⟨j, hj, rfl, rfl⟩ := hex
      try simp only [Int.toNat_natCast] at *)
    all_goals try (refine Vc.mk ?_; first | omega | exact hlen)
    all_goals try (exact ⟨⟨0, Nat.zero_le _, rfl, rfl⟩⟩)
    all_goals try (
      have hm := mem_getD (d := (Elem.mk 0 [] [] : Elem)) (l := e_elems) (j := j) (by omega)
      exact Vc.mk ⟨hH _ hm, (hl.2 _ hm).2, (hl.2 _ hm).1⟩)
    all_goals try (
      rw [set_getD (d := (Elem.mk 0 [] [] : Elem)) (by omega)]
      exact ⟨⟨j + 1, by omega, by rw [wrap64] <;> omega, rfl⟩, by rw [wrap64] <;> omega⟩)
    all_goals first | exact Res.mk rfl | exact Res.mk trivial | (refine Res.mk ?_; exact ⟨rfl, rfl⟩) | (trace_state; sorry)
  · exact h.fail.elim

end Go.Proofs.Ythbmllekbbfobaa.Sx
