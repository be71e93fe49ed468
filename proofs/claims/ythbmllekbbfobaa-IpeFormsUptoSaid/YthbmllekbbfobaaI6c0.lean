import Derived.Test.YthbmllekbbfobaaProg
import Derived.Test.YthbmllekbbfobaaSxU
import Derived.IntWalk
import Derived.Test.YthbmllekbbfobaaI6r
/-! ipe, Parse -/
namespace Go.Proofs.Ythbmllekbbfobaa.Sx
open Go
set_option linter.unusedVariables false
set_option linter.unusedSimpArgs false
set_option maxRecDepth 100000

def T_ipe_Parse : TT := [(3, ⟨.int .i64, 1, 8, [.int .i64 0], some .int⟩),
  (4, ⟨.bool, 1, 1, [.bool false], some .bool⟩),
  (5, ⟨.int .u8, 1, 1, [.int .u8 0], some .u8⟩),
  (25, ⟨.slice 5, 1, 24, [.slice none 0 0], none⟩),
  (27, ⟨.int .i64, 1, 8, [.int .i64 0], some .int⟩),
  (56, ⟨.int .i64, 1, 8, [.int .i64 0], some .int⟩),
  (58, ⟨.strct [(0, 56), (1, 3), (2, 3), (3, 3), (4, 3), (5, 3), (6, 3), (7, 3), (8, 4), (9, 3), (10, 3), (11, 3), (12, 3), (13, 4)], 14, 112, [.int .i64 0, .int .i64 0, .int .i64 0, .int .i64 0, .int .i64 0, .int .i64 0, .int .i64 0, .int .i64 0, .bool false, .int .i64 0, .int .i64 0, .int .i64 0, .int .i64 0, .bool false], some .product⟩),
  (126, ⟨.ptr, 1, 8, [.pointer none], none⟩),
  (158, ⟨.slice 160, 1, 24, [.slice none 0 0], none⟩),
  (160, ⟨.strct [(0, 3), (1, 25), (2, 158)], 3, 56, [.int .i64 0, .slice none 0 0, .slice none 0 0], some .elem⟩),
  (205, ⟨.slice 213, 1, 24, [.slice none 0 0], none⟩),
  (207, ⟨.ptr, 1, 8, [.pointer none], none⟩),
  (213, ⟨.strct [(0, 126), (1, 3), (2, 3)], 3, 24, [.pointer none, .int .i64 0, .int .i64 0], none⟩)]
theorem tOk_ipe_Parse : TOk Try.prog T_ipe_Parse := tOk_of (by kernel_rfl)
def sp_ipe_Parse : Spec := fun args hp => match args, hp with
  | [.slF 0], [(0, .row o_b .u8 b)] => .vc (isB b ∧ b.length ≤ 1048576) (.tup [svProduct (parP b), iv (parE b)]) []
  | _, _ => .fail "ipe_Parse"
abbrev k_ipe_Parse : List (Option RK) := [some .u8]
def a_ipe_Parse : List SV → List (Nat × VB) → Anns := fun args hp => match args, hp with
  | [.slF 0], [(0, .row o_b .u8 b)] => [(10, fun S => .inv [pOf (S.get 6), pOf (S.get 7), pOf (S.get 8), pOf (S.get 9)] [] [] fun ids vs rs => { cars := [.i 35 .i64, .blk (atN ids 0) [.fix (iv 0), .i .i64, .i .i64, .i .i64, .i .i64, .i .i64, .i .i64, .i .i64, .fix (bv false), .i .i64, .i .i64, .i .i64, .i .i64, .fix (bv false)], .blk (atN ids 1) [.i .i64], .blk (atN ids 2) [.i .i64], .blk (atN ids 3) [.i .i64]], inv := fun ((i, (_, n1, n2, n3, n4, n5, n6, n7, _, n9, n10, n11, n12, _, _), (n0, _), (n8, _), (n13, _), _) : Int × (Unit × Int × Int × Int × Int × Int × Int × Int × Unit × Int × Int × Int × Int × Unit × Unit) × (Int × Unit) × (Int × Unit) × (Int × Unit) × Unit) => IPs (findE 224 (getP 4 b).1).1.elems i [n0, n1, n2, n3, n4, n5, n6, n7, n8, n9, n10, n11, n12, n13], mu := fun ((i, (_, n1, n2, n3, n4, n5, n6, n7, _, n9, n10, n11, n12, _, _), (n0, _), (n8, _), (n13, _), _) : Int × (Unit × Int × Int × Int × Int × Int × Int × Int × Unit × Int × Int × Int × Int × Unit × Unit) × (Int × Unit) × (Int × Unit) × (Int × Unit) × Unit) => (findE 224 (getP 4 b).1).1.elems.length - i.toNat })]
  | _, _ => []
set_option maxHeartbeats 20000000 in
theorem ok_ipe_Parse : GOk Try.prog 77 (lift k_ipe_Parse sp_ipe_Parse) := by
  refine pf_ok (T := T_ipe_Parse) (Γ := (116, lift k_tlv_Get sp_tlv_Get) :: (117, lift k_ipe_fields sp_ipe_fields) :: (118, lift k_tlv_Find sp_tlv_Find) :: (119, lift k_tlv_Int sp_tlv_Int) :: (27, lift k_ipe_Form sp_ipe_Form) :: (120, lift k_slices_Equal_byte_byte sp_slices_Equal_byte_byte) :: []) tOk_ipe_Parse (gOks_cons ok_tlv_Get (gOks_cons ok_ipe_fields (gOks_cons ok_tlv_Find (gOks_cons ok_tlv_Int (gOks_cons ok_ipe_Form (gOks_cons ok_slices_Equal_byte_byte (gOks_nil _))))))) mixed Try.func77 (c := body Try.f77) (by kernel_rfl) (by kernel_rfl) k_ipe_Parse sp_ipe_Parse (by kernel_rfl) (by kernel_rfl) a_ipe_Parse ?_
  intro args hp s u hfit h
  unfold sp_ipe_Parse at h
  split at h
  · rename_i o_b b
    obtain ⟨hvc, rfl, rfl⟩ := h.vc
    clear h hfit
    change List Int at b
    conv => whnf
    repeat' (first
      | (refine And.intro ?_ ?_ <;> try conv => whnf)
      | (intro hh; first | (cases hh; done) | conv => whnf))
    all_goals try first | rfl | kernel_rfl
    all_goals try simp only [decide_eq_true_eq, decide_eq_false_iff_not] at *
    all_goals try simp only [Key_eta, Share_eta, Journey_eta, Batch_eta, FieldT_eta, OpB_eta, Product_eta, Item_eta, Delta_eta, Elem_eta, Rule_eta, Do10_eta, Key_beq, Share_beq, Journey_beq, FieldT_beq, Product_beq, Item_beq, Do10_beq, toNat0, toNat1, toNat2, toNat3, toNat4, toNat5, toNat6, toNat7, toNat8, toNat9, toNat10, toNat11, toNat12, toNat13, toNat14, toNat15, toNat16, toNat17, toNat18, toNat19, iA, iOf, atS, rwA, castK, zK, true_and, and_true, decide_eq_true_eq, decide_eq_false_iff_not, beq_iff_eq, bne_iff_ne, beq_eq_false_iff_ne, bne_eq_false_iff_eq, Bool.not_eq_true', Bool.not_eq_false', Bool.not_eq_true, Bool.not_eq_false, Nat.succ_eq_add_one, Int.not_lt, Int.not_le, gt_iff_lt, ge_iff_le, show bytesS T_ipe_Parse 25 = 1 from rfl, show bytesS T_ipe_Parse 158 = 56 from rfl, show bytesS T_ipe_Parse 205 = 24 from rfl] at *
    all_goals obtain ⟨hB, hL⟩ := hvc
    all_goals have hW := getP_w 4 b hB
    all_goals have hWl := okTags_len' hW.1
    all_goals have hes := findE_w (t := 224) hW.2
    all_goals have hesl := okTags_len' hes.1
    all_goals try (exact Vc.mk ⟨hB, hL⟩)
    all_goals try (
      have hne : (getP 4 b).2 ≠ 0 := ‹_›
      obtain ⟨e1, e2⟩ := par_err hne
      rw [e1, e2]
      exact Res.mk ⟨rfl, rfl, rfl, rfl, rfl, rfl, rfl, rfl, rfl, rfl, rfl, rfl, rfl, rfl, rfl⟩)
    all_goals try (
      have h0 : (getP 4 b).2 = 0 := ‹_›)
    all_goals try (exact Vc.mk ⟨by omega, fun x hx => ⟨wE_hE (hW.2 x hx).2.2.1, wE_lE (hW.2 x hx).2.2.1, by have := (hW.2 x hx).2.1; omega⟩⟩)
    all_goals try (exact ⟨⟨0, Nat.zero_le _, rfl, rfl⟩⟩)
    all_goals try (
      have hn : (findE 224 (getP 4 b).1).2 = false := ‹_›
      have hc : candP b = zP := by rw [candP, findE_none hn]; rfl
      obtain ⟨e1, e2⟩ := par_bad h0 (by rw [hc]; rintro ⟨h, _⟩; exact absurd h (by decide))
      rw [e1, e2]
      exact Res.mk ⟨rfl, rfl, rfl, rfl, rfl, rfl, rfl, rfl, rfl, rfl, rfl, rfl, rfl, rfl, rfl⟩)
    all_goals have hCb : candP b = prodN (asg (findE 224 (getP 4 b).1).1.elems zN) := rfl
    all_goals generalize (findE 224 (getP 4 b).1).1.elems = es at *
    all_goals (
      have hex := ‹IPs _ _ _›
      obtain ⟨j, hj, rfl, hns⟩ := hex
      try simp only [Int.toNat_natCast] at *)
    all_goals try (refine Vc.mk ?_; omega)
    all_goals try (
      have hjl : j < es.length := by omega
      have hm := mem_getD (d := (Elem.mk 0 [] [] : Elem)) hjl
      have hx := hes.2 _ hm
      have ht := okTags_mem hes.1 _ hm
      have hEx : es.getD j (Elem.mk 0 [] [] : Elem) = es.getD j (Elem.mk 0 [] [] : Elem) := rfl
      generalize hxx : es.getD j (Elem.mk 0 [] [] : Elem) = x at *
      have hwt : IntKind.i64.wrap (x.tag - 1) = x.tag - 1 := wrap64 (by omega) (by omega)
      simp only [hwt] at *)
    all_goals try (exact Vc.mk ⟨hx.1, by have := hx.2.1; omega⟩)
    all_goals try (refine Vc.mk ?_; omega)
    all_goals try (
      refine ⟨⟨j + 1, by omega, by rw [wrap64] <;> omega, ?_⟩, by rw [wrap64] <;> omega⟩
      have hbig : ¬ x.tag ≤ 14 := by omega
      rw [take_getD (d := (Elem.mk 0 [] [] : Elem)) hjl, hxx, asg_snoc, hns, asg1, if_neg hbig])
    all_goals try (
      refine ⟨⟨j + 1, by omega, by rw [wrap64] <;> omega, ?_⟩, by rw [wrap64] <;> omega⟩
      have h14 : x.tag ≤ 14 := by omega
      have hk := ‹Elem.tag _ - 1 = ((_ : Nat) : Int)›
      rw [take_getD (d := (Elem.mk 0 [] [] : Elem)) hjl, hxx, asg_snoc, hns, asg1, if_pos h14, hk, Int.toNat_natCast]
      rfl)
    all_goals try (
      refine ⟨⟨j + 1, by omega, by rw [wrap64] <;> omega, ?_⟩, by rw [wrap64] <;> omega⟩
      have h14 : x.tag ≤ 14 := by omega
      have hk : x.tag - 1 = ((13 : Nat) : Int) := by omega
      rw [take_getD (d := (Elem.mk 0 [] [] : Elem)) hjl, hxx, asg_snoc, hns, asg1, if_pos h14, hk, Int.toNat_natCast]
      rfl)
    all_goals rw [List.take_of_length_le (by omega)] at hns
    all_goals rw [hns] at hCb
    all_goals simp only [prodN, List.getD_cons_zero, List.getD_cons_succ] at hCb
    · obtain ⟨e1, e2⟩ := par_bad h0 (by rw [hCb, formE_ne ‹_›]; rintro ⟨h, _⟩; cases h)
      rw [e1, e2]
      exact Res.mk ⟨rfl, rfl, rfl, rfl, rfl, rfl, rfl, rfl, rfl, rfl, rfl, rfl, rfl, rfl, rfl⟩
    · obtain ⟨r1, r2⟩ := formE_eq ‹_›
      have := formB_len r1
      refine Vc.mk ⟨?_, ?_⟩
      · rw [r2]; omega
      · omega
    · obtain ⟨r1, r2⟩ := formE_eq ‹_›
      have hn : ¬ formL _ = b := ‹_›
      rw [r2] at hn
      obtain ⟨e1, e2⟩ := par_bad h0 (by rw [hCb]; rintro ⟨_, h⟩; exact hn h)
      rw [e1, e2]
      exact Res.mk ⟨rfl, rfl, rfl, rfl, rfl, rfl, rfl, rfl, rfl, rfl, rfl, rfl, rfl, rfl, rfl⟩
    · obtain ⟨r1, r2⟩ := formE_eq ‹_›
      have hn : formL _ = b := ‹_›
      rw [r2] at hn
      obtain ⟨e1, e2⟩ := par_ok h0 (by rw [hCb]; exact r1) (by rw [hCb]; exact hn)
      rw [e1, e2, hCb]
      exact Res.mk ⟨rfl, rfl, rfl, rfl, rfl, rfl, rfl, rfl, rfl, rfl, rfl, rfl, rfl, rfl, rfl⟩
  · exact h.fail.elim

end Go.Proofs.Ythbmllekbbfobaa.Sx
