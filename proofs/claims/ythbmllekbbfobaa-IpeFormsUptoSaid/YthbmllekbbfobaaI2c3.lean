import Derived.Test.YthbmllekbbfobaaProg
import Derived.Test.YthbmllekbbfobaaSxU
import Derived.IntWalk
import Derived.Test.YthbmllekbbfobaaI2c2
/-! tlv, get -/
namespace Go.Proofs.Ythbmllekbbfobaa.Sx
open Go
set_option linter.unusedVariables false
set_option linter.unusedSimpArgs false
set_option maxRecDepth 100000

def T_tlv_getS2 : TT := [(3, ⟨.int .i64, 1, 8, [.int .i64 0], some .int⟩),
  (4, ⟨.bool, 1, 1, [.bool false], some .bool⟩),
  (5, ⟨.int .u8, 1, 1, [.int .u8 0], some .u8⟩),
  (25, ⟨.slice 5, 1, 24, [.slice none 0 0], none⟩),
  (27, ⟨.int .i64, 1, 8, [.int .i64 0], some .int⟩),
  (158, ⟨.slice 160, 1, 24, [.slice none 0 0], none⟩),
  (160, ⟨.strct [(0, 3), (1, 25), (2, 158)], 3, 56, [.int .i64 0, .slice none 0 0, .slice none 0 0], some .elem⟩)]
theorem tOk_tlv_getS2 : TOk Try.prog T_tlv_getS2 := tOk_of (by kernel_rfl)
def sp_tlv_getS2 : Spec := fun args hp => match args, hp with
  | [.slP 0 b_i b_n, .val (.int .i64 in_)], [(0, .row o_b .u8 b)] => .vc (isB ((b.drop b_i).take b_n) ∧ ((b.drop b_i).take b_n).length ≤ 1048576 ∧ in_ = 2) (.tup [.slF 2000, iv (getP 2 ((b.drop b_i).take b_n)).2]) [(2000, some (.row true .elem (getP 2 ((b.drop b_i).take b_n)).1))]
  | _, _ => .fail "tlv_getS2"
abbrev k_tlv_getS2 : List (Option RK) := [some .u8, none]
def a_tlv_getS2 : List SV → List (Nat × VB) → Anns := fun args hp => match args, hp with
  | [.slP 0 b_i b_n, .val (.int .i64 in_)], [(0, .row o_b .u8 b)] => [(3, fun S => .inv [pOf (S.get 0)] [] [] fun ids vs rs => { cars := [.sl 0 (atN ids 0), .i 7 .i64, .r 6 true .elem], inv := fun (((c_i, c_n), last, es, _) : (Nat × Nat) × Int × List Elem × Unit) => IGt 2 ((b.drop b_i).take b_n) b c_i c_n last es, mu := fun (((c_i, c_n), last, es, _) : (Nat × Nat) × Int × List Elem × Unit) => c_n })]
  | _, _ => []
set_option maxHeartbeats 20000000 in
theorem ok_tlv_getS2 : GOk Try.prog 147 (lift k_tlv_getS2 sp_tlv_getS2) := by
  refine pf_ok (T := T_tlv_getS2) (Γ := (113, lift k_slices_Clone_byte_byteP sp_slices_Clone_byte_byteP) :: (147, lift k_tlv_getS1 sp_tlv_getS1) :: []) tOk_tlv_getS2 (gOks_cons ok_slices_Clone_byte_byteP (gOks_cons ok_tlv_getS1 (gOks_nil _))) mixed Try.func147 (c := body Try.f147) (by kernel_rfl) (by kernel_rfl) k_tlv_getS2 sp_tlv_getS2 (by kernel_rfl) (by kernel_rfl) a_tlv_getS2 ?_
  intro args hp s u hfit h
  unfold sp_tlv_getS2 at h
  split at h
  · rename_i b_i b_n in_ o_b b
    obtain ⟨hvc, rfl, rfl⟩ := h.vc
    clear h
    change List Int at b
    conv => whnf
    repeat' (first
      | (refine And.intro ?_ ?_ <;> try conv => whnf)
      | (intro hh; first | (cases hh; done) | conv => whnf))
    all_goals try first | rfl | kernel_rfl
    all_goals try simp only [decide_eq_true_eq, decide_eq_false_iff_not] at *
    all_goals try simp only [Key_eta, Share_eta, Journey_eta, Batch_eta, FieldT_eta, OpB_eta, Product_eta, Item_eta, Delta_eta, Elem_eta, Rule_eta, Do10_eta, Key_beq, Share_beq, Journey_beq, FieldT_beq, Product_beq, Item_beq, Do10_beq, toNat0, toNat1, toNat2, toNat3, toNat4, toNat5, toNat6, toNat7, toNat8, toNat9, toNat10, toNat11, toNat12, toNat13, toNat14, toNat15, toNat16, toNat17, toNat18, toNat19, iA, iOf, atS, rwA, castK, zK, true_and, and_true, decide_eq_true_eq, decide_eq_false_iff_not, beq_iff_eq, bne_iff_ne, beq_eq_false_iff_ne, bne_eq_false_iff_eq, Bool.not_eq_true', Bool.not_eq_false', Bool.not_eq_true, Bool.not_eq_false, Nat.succ_eq_add_one, Int.not_lt, Int.not_le, gt_iff_lt, ge_iff_le, show bytesS T_tlv_getS2 25 = 1 from rfl, show bytesS T_tlv_getS2 158 = 56 from rfl] at *
    all_goals (
      have hf : b_n = 0 ∨ b_i + b_n ≤ b.length := hfit.1
      have hfn : ((b.drop b_i).take b_n).length = b_n := by
        rw [List.length_take, List.length_drop]
        omega
      have hge : ∀ i, i < b_n → ((b.drop b_i).take b_n).getD i 0 = b.getD (b_i + i) 0 := fun i hi => getD_take_drop hi)
    all_goals obtain ⟨hB, hL, rfl⟩ := hvc
    all_goals generalize hbb : ((b.drop b_i).take b_n) = bb at *
    all_goals subst hfn
    all_goals try (
      have hex := ‹IGt _ _ _ _ _ _ _›
      obtain ⟨i, n, l, e, c, rfl, rfl, rfl, rfl, hc, hcl, hin, hel, hnb, hg, hl0, hBc⟩ := hex
      change getP 2 _ = preE e (getGo 2 (getP 1) c.length c l) at hg)
    all_goals try (
      have hn0 : 0 < n := by omega
      have g0 : b.getD (i + 0) 0 = c.getD 0 0 := by rw [← hc]; exact (getD_take_drop hn0).symm
      have z0 : ((i : Int) + 0).toNat = i + 0 := by omega
      have z1 : ((i : Int) + 1).toNat = i + 1 := by omega
      have t0 := hBc.getD 0
      have x0 := hBc.getD 1
      have y0 : IntKind.i64.wrap (c.getD 0 0) = c.getD 0 0 := wrap64 (by omega) (by omega)
      have y1 : IntKind.i64.wrap (c.getD 1 0) = c.getD 1 0 := wrap64 (by omega) (by omega)
      have hst := getGo_step (d := 2) (rec := getP 1) (c := c) (last := l) (by omega)
      simp only [z0, z1, g0, y0] at *)
    all_goals try (
      have hn1 : 1 < n := by omega
      have g1 : b.getD (i + 1) 0 = c.getD 1 0 := by rw [← hc]; exact (getD_take_drop hn1).symm
      simp only [g1, y1] at *)
    all_goals try (
      have w1 : IntKind.i64.wrap ((n : Int) - 2) = n - 2 := wrap64 (by omega) (by omega)
      have w2 : IntKind.i64.wrap (2 + c.getD 1 0) = 2 + c.getD 1 0 := wrap64 (by omega) (by omega)
      have w4 : IntKind.i64.wrap (2 + ((c.getD 1 0).toNat : Int)) = 2 + c.getD 1 0 := by rw [wrap64 (by omega) (by omega)]; omega
      have w5 : (2 + c.getD 1 0).toNat = 2 + (c.getD 1 0).toNat := by omega
      simp only [w1, w2, w5, Nat.add_sub_cancel_left, w4] at *)
    all_goals try (
      have hx : c.getD 1 0 ≤ n - 2 := ‹_›
      have hp := part_eq (N := (c.getD 1 0).toNat) hc (by omega)
      have hr := rest_eq (N := 2 + (c.getD 1 0).toNat) hc
      try simp only [hp] at *)
    all_goals try (have h4 : (4 : Int) ≤ 2 := ‹_›; exact absurd h4 (by decide))
    all_goals try (refine Vc.mk ?_; first | omega | (simp only [List.length_take, List.length_drop, List.length_cons, List.length_nil]; omega) | (refine ⟨(hBc.drop 2).take _, ?_, by decide⟩; rw [List.length_take, List.length_drop]; omega))
    · exact ⟨⟨_, _, _, _, _, rfl, rfl, rfl, rfl, hbb, rfl, hf, by simp, Nat.le_refl _, by rw [getP_eq]; exact getGo_preE _ _ _, by decide, hB⟩⟩
    · rw [hst, if_neg (by decide), if_pos (by omega), preE_err _ (by decide)] at hg
      exact Res.mk (by rw [hg]; exact ⟨rfl, rfl⟩)
    · rw [hst, if_neg (by decide), if_neg (by omega), if_pos (.inl (by omega)), preE_err _ (by decide)] at hg
      exact Res.mk (by rw [hg]; exact ⟨rfl, rfl⟩)
    · rw [hst, if_neg (by decide), if_neg (by omega), if_pos (.inr (by omega)), preE_err _ (by decide)] at hg
      exact Res.mk (by rw [hg]; exact ⟨rfl, rfl⟩)
    · rw [hst, if_neg (by decide), if_neg (by omega), if_neg (by omega), if_pos (by omega), preE_cons] at hg
      refine ⟨⟨_, _, _, _, _, rfl, rfl, rfl, rfl, hr, by rw [List.length_drop]; omega, by omega, by rw [List.length_append]; simp only [List.length_cons, List.length_nil]; omega, by omega, hg, by omega, hBc.drop _⟩, by omega⟩
    · rw [hst, if_neg (by decide), if_neg (by omega), if_neg (by omega), if_neg (by omega), if_neg ‹_›, preE_err _ ‹_›] at hg
      exact Res.mk (by rw [hg]; exact ⟨rfl, rfl⟩)
    · rw [hst, if_neg (by decide), if_neg (by omega), if_neg (by omega), if_neg (by omega), if_pos ‹_›, preE_cons] at hg
      refine ⟨⟨_, _, _, _, _, rfl, rfl, rfl, rfl, hr, by rw [List.length_drop]; omega, by omega, by rw [List.length_append]; simp only [List.length_cons, List.length_nil]; omega, by omega, hg, by omega, hBc.drop _⟩, by omega⟩
    · obtain rfl : n = 0 := by omega
      rw [hcl, getGo, preE, if_pos rfl, List.append_nil] at hg
      exact Res.mk (by rw [hg]; exact ⟨rfl, rfl⟩)
    
  · exact h.fail.elim

end Go.Proofs.Ythbmllekbbfobaa.Sx
