import Derived.Test.YtgajbggdamlhlaaProg
import Derived.Test.YtgajbggdamlhlaaSxU
import Derived.IntWalk
import Derived.Test.YtgajbggdamlhlaaI7c6
/-! ipe, Parse, pure -/
namespace Go.Proofs.Ytgajbggdamlhlaa.Sx
open Go
set_option linter.unusedVariables false
set_option linter.unusedSimpArgs false
set_option maxRecDepth 100000

def T_fareboxref10_ParseP : TT := [(3, ⟨.int .i64, 1, 8, [.int .i64 0], some .int⟩),
  (4, ⟨.bool, 1, 1, [.bool false], some .bool⟩),
  (5, ⟨.int .u8, 1, 1, [.int .u8 0], some .u8⟩),
  (22, ⟨.slice 3, 1, 24, [.slice none 0 0], none⟩),
  (39, ⟨.int .i64, 1, 8, [.int .i64 0], some .int⟩),
  (41, ⟨.strct [(0, 39), (1, 3), (2, 3), (3, 3), (4, 3), (5, 3), (6, 3), (7, 3), (8, 4), (9, 3), (10, 3), (11, 3), (12, 3), (13, 4)], 14, 112, [.int .i64 0, .int .i64 0, .int .i64 0, .int .i64 0, .int .i64 0, .int .i64 0, .int .i64 0, .int .i64 0, .bool false, .int .i64 0, .int .i64 0, .int .i64 0, .int .i64 0, .bool false], some .product⟩),
  (43, ⟨.slice 5, 1, 24, [.slice none 0 0], none⟩),
  (104, ⟨.slice 107, 1, 24, [.slice none 0 0], none⟩),
  (107, ⟨.strct [(0, 3), (1, 43), (2, 104)], 3, 56, [.int .i64 0, .slice none 0 0, .slice none 0 0], some .elem⟩)]
theorem tOk_fareboxref10_ParseP : TOk Try.prog T_fareboxref10_ParseP := tOk_of (by kernel_rfl)
def sp_fareboxref10_ParseP : Spec := fun args hp => match args, hp with
  | [.slP 0 b_i b_n], [(0, .row o_b .u8 b)] => .vc (isB ((b.drop b_i).take b_n) ∧ ((b.drop b_i).take b_n).length ≤ 1048576) (.tup [svProduct (parP ((b.drop b_i).take b_n)), iv (parE ((b.drop b_i).take b_n))]) []
  | _, _ => .fail "fareboxref10_ParseP"
abbrev k_fareboxref10_ParseP : List (Option RK) := [some .u8]
def a_fareboxref10_ParseP : List SV → List (Nat × VB) → Anns := fun args hp => match args, hp with
  | [.slP 0 b_i b_n], [(0, .row o_b .u8 b)] => [(9, fun S => .inv [pOf (S.get 6)] [] [] fun ids vs rs => { cars := [.i 8 .i64, .row (atN ids 0) true .int], inv := fun ((i, ns, _) : Int × List Int × Unit) => IRP ((getP 4 ((b.drop b_i).take b_n)).1.getD 0 (Elem.mk 0 [] [] : Elem)).elems i ns, mu := fun ((i, ns, _) : Int × List Int × Unit) => ((getP 4 ((b.drop b_i).take b_n)).1.getD 0 (Elem.mk 0 [] [] : Elem)).elems.length - i.toNat })]
  | _, _ => []
set_option maxHeartbeats 20000000 in
theorem ok_fareboxref10_ParseP : GOk Try.prog 44 (lift k_fareboxref10_ParseP sp_fareboxref10_ParseP) := by
  refine pf_ok (T := T_fareboxref10_ParseP) (Γ := (92, lift k_fareboxref04_GetS4 sp_fareboxref04_GetS4) :: (93, lift k_fareboxref04_Int sp_fareboxref04_Int) :: (94, lift k_fareboxref10_Of sp_fareboxref10_Of) :: (21, lift k_fareboxref10_Right sp_fareboxref10_Right) :: []) tOk_fareboxref10_ParseP (gOks_cons ok_fareboxref04_GetS4 (gOks_cons ok_fareboxref04_Int (gOks_cons ok_fareboxref10_Of (gOks_cons ok_fareboxref10_Right (gOks_nil _))))) mixed Try.func44 (c := body Try.f44) (by kernel_rfl) (by kernel_rfl) k_fareboxref10_ParseP sp_fareboxref10_ParseP (by kernel_rfl) (by kernel_rfl) a_fareboxref10_ParseP ?_
  intro args hp s u hfit h
  unfold sp_fareboxref10_ParseP at h
  split at h
  · rename_i b_i b_n o_b b
    obtain ⟨hvc, rfl, rfl⟩ := h.vc
    clear h
    change List Int at b
    conv => whnf
    repeat' (first
      | (refine And.intro ?_ ?_ <;> try conv => whnf)
      | (intro hh; first | (cases hh; done) | conv => whnf))
    all_goals try first | rfl | kernel_rfl
    all_goals try simp only [decide_eq_true_eq, decide_eq_false_iff_not] at *
    all_goals try simp only [Key_eta, Share_eta, Journey_eta, Batch_eta, FieldT_eta, OpB_eta, Product_eta, Item_eta, Delta_eta, Elem_eta, Rule_eta, Do10_eta, Key_beq, Share_beq, Journey_beq, FieldT_beq, Product_beq, Item_beq, Do10_beq, toNat0, toNat1, toNat2, toNat3, toNat4, toNat5, toNat6, toNat7, toNat8, toNat9, toNat10, toNat11, toNat12, toNat13, toNat14, toNat15, toNat16, toNat17, toNat18, toNat19, iA, iOf, atS, rwA, castK, zK, true_and, and_true, decide_eq_true_eq, decide_eq_false_iff_not, beq_iff_eq, bne_iff_ne, beq_eq_false_iff_ne, bne_eq_false_iff_eq, Bool.not_eq_true', Bool.not_eq_false', Bool.not_eq_true, Bool.not_eq_false, Nat.succ_eq_add_one, Int.not_lt, Int.not_le, gt_iff_lt, ge_iff_le, show bytesS T_fareboxref10_ParseP 22 = 8 from rfl, show bytesS T_fareboxref10_ParseP 43 = 1 from rfl, show bytesS T_fareboxref10_ParseP 104 = 56 from rfl] at *
    all_goals generalize ((b.drop b_i).take b_n) = bb at *
    all_goals obtain ⟨hB, hL⟩ := hvc
    all_goals have hW := getP_w 4 bb hB
    all_goals have hWl := okTags_len' hW.1
    all_goals try (exact Vc.mk ⟨hB, hL⟩)
    all_goals try (exact Vc.mk ⟨hB, hL, by decide⟩)
    all_goals try (
      have hne : (getP 4 bb).2 ≠ 0 := ‹_›
      obtain ⟨e1, e2⟩ := par_err hne
      rw [e1, e2]
      exact Res.mk ⟨rfl, rfl, rfl, rfl, rfl, rfl, rfl, rfl, rfl, rfl, rfl, rfl, rfl, rfl, rfl⟩)
    all_goals have h0 : (getP 4 bb).2 = 0 := ‹_›
    all_goals try (
      have hn : ((getP 4 bb).1.length : Int) ≠ 1 := ‹_›
      have hb : ¬ ∃ bs es, (getP 4 bb).1 = [.mk 224 bs es] ∧ (∀ x ∈ es, goodX x) ∧ rightP (candP bb) = true := by
        rintro ⟨bs, es, h1, _⟩
        rw [h1] at hn
        exact hn rfl
      obtain ⟨e1, e2⟩ := ref_bad h0 hb
      rw [e1, e2]
      exact Res.mk ⟨rfl, rfl, rfl, rfl, rfl, rfl, rfl, rfl, rfl, rfl, rfl, rfl, rfl, rfl, rfl⟩)
    all_goals have hone : ((getP 4 bb).1.length : Int) = 1 := ‹_›
    all_goals try (refine Vc.mk ?_; omega)
    all_goals obtain ⟨x, hx⟩ := one_of_len hone
    all_goals have hwx := hW.2 x (by rw [hx]; exact List.mem_cons_self)
    all_goals have hz : (getP 4 bb).1.getD 0 (Elem.mk 0 [] [] : Elem) = x := by rw [hx]; rfl
    all_goals simp only [hz] at *
    all_goals try (
      have hn : x.tag ≠ 224 := ‹_›
      have hb : ¬ ∃ bs es, (getP 4 bb).1 = [.mk 224 bs es] ∧ (∀ x ∈ es, goodX x) ∧ rightP (candP bb) = true := by
        rintro ⟨bs, es, h1, _⟩
        rw [hx] at h1
        exact hn (congrArg Elem.tag (List.cons.inj h1).1)
      obtain ⟨e1, e2⟩ := ref_bad h0 hb
      rw [e1, e2]
      exact Res.mk ⟨rfl, rfl, rfl, rfl, rfl, rfl, rfl, rfl, rfl, rfl, rfl, rfl, rfl, rfl, rfl⟩)
    all_goals have ht : x.tag = 224 := ‹_›
    all_goals have hes := hwx.2.2.1
    all_goals have hesl := okTags_len' hes.1
    all_goals try (exact ⟨⟨0, Nat.zero_le _, rfl, rfl, rfl, fun _ h => by cases h⟩⟩)
    all_goals (
      have hex := ‹IRP _ _ _›
      obtain ⟨j, hj, rfl, hns, hnl, hgd⟩ := hex
      try simp only [Int.toNat_natCast] at *)
    all_goals try (refine Vc.mk ?_; omega)
    all_goals try (
      have hjl : j < x.elems.length := by omega
      have hm := mem_getD (d := (Elem.mk 0 [] [] : Elem)) hjl
      have hy := hes.2 _ hm
      have hty := okTags_mem hes.1 _ hm
      have hwt : IntKind.i64.wrap ((x.elems.getD j (Elem.mk 0 [] [] : Elem)).tag - 1) = (x.elems.getD j (Elem.mk 0 [] [] : Elem)).tag - 1 := wrap64 (by omega) (by omega)
      simp only [hwt] at *)
    all_goals try (exact Vc.mk ⟨hy.1, by have := hy.2.1; omega⟩)
    all_goals try (refine Vc.mk ?_; omega)
    all_goals try (
      have hb : ¬ goodX (x.elems.getD j (Elem.mk 0 [] [] : Elem)) := by
        rintro ⟨g1, g2, g3, g4, g5⟩
        omega
      obtain ⟨e1, e2⟩ := not_good hx hjl hb h0
      rw [e1, e2]
      exact Res.mk ⟨rfl, rfl, rfl, rfl, rfl, rfl, rfl, rfl, rfl, rfl, rfl, rfl, rfl, rfl, rfl⟩)
    all_goals try (
      have hg : goodX (x.elems.getD j (Elem.mk 0 [] [] : Elem)) := by
        refine ⟨?_, ?_, ?_, ?_, ?_⟩ <;> omega
      refine ⟨⟨j + 1, by omega, by rw [wrap64] <;> omega, ?_, by rw [List.length_set]; exact hnl, ?_⟩, by rw [wrap64] <;> omega⟩
      · rw [take_getD (d := (Elem.mk 0 [] [] : Elem)) hjl, asg_snoc, hns, asg1, if_pos hg.1]
      · rw [take_getD (d := (Elem.mk 0 [] [] : Elem)) hjl]
        intro y hy'
        rcases List.mem_append.1 hy' with hy' | hy'
        · exact hgd y hy'
        · obtain rfl := List.mem_singleton.1 hy'
          exact hg)
    all_goals rw [List.take_of_length_le (by omega)] at hns hgd
    all_goals have hf : findE 224 [x] = (x, true) := if_pos ht
    all_goals have hCb : candP bb = prodN (asg x.elems zN) := by rw [candP, hx, hf]
    all_goals rw [hns] at hCb
    all_goals have hxe : x = .mk 224 x.bytes x.elems := elem_eta ht
    · have hb : ¬ ∃ bs es, (getP 4 bb).1 = [.mk 224 bs es] ∧ (∀ x ∈ es, goodX x) ∧ rightP (candP bb) = true := by
        rintro ⟨bs, es, h1, h2, h3⟩
        rw [hCb] at h3
        have h4 : rightP (prodN _) = false := ‹_›
        rw [h4] at h3
        cases h3
      obtain ⟨e1, e2⟩ := ref_bad h0 hb
      rw [e1, e2]
      exact Res.mk ⟨rfl, rfl, rfl, rfl, rfl, rfl, rfl, rfl, rfl, rfl, rfl, rfl, rfl, rfl, rfl⟩
    · obtain ⟨e1, e2⟩ := ref_ok hB h0 (hx.trans (by rw [← hxe])) hgd (by rw [hCb]; assumption)
      rw [e1, e2, hCb]
      exact Res.mk ⟨rfl, rfl, rfl, rfl, rfl, rfl, rfl, rfl, rfl, rfl, rfl, rfl, rfl, rfl, rfl⟩
  · exact h.fail.elim

end Go.Proofs.Ytgajbggdamlhlaa.Sx
