import Derived.Test.YtgajbggdamlhlaaProg
import Derived.Test.YtgajbggdamlhlaaSxU
import Derived.IntWalk
import Derived.Test.YtgajbggdamlhlaaI7c4
/-! ipe, Parse, pure -/
namespace Go.Proofs.Ytgajbggdamlhlaa.Sx
open Go
set_option linter.unusedVariables false
set_option linter.unusedSimpArgs false
set_option maxRecDepth 100000

def T_fareboxref04_GetS4 : TT := [(3, ⟨.int .i64, 1, 8, [.int .i64 0], some .int⟩),
  (4, ⟨.bool, 1, 1, [.bool false], some .bool⟩),
  (5, ⟨.int .u8, 1, 1, [.int .u8 0], some .u8⟩),
  (43, ⟨.slice 5, 1, 24, [.slice none 0 0], none⟩),
  (104, ⟨.slice 107, 1, 24, [.slice none 0 0], none⟩),
  (107, ⟨.strct [(0, 3), (1, 43), (2, 104)], 3, 56, [.int .i64 0, .slice none 0 0, .slice none 0 0], some .elem⟩)]
theorem tOk_fareboxref04_GetS4 : TOk Try.prog T_fareboxref04_GetS4 := tOk_of (by kernel_rfl)
def sp_fareboxref04_GetS4 : Spec := fun args hp => match args, hp with
  | [.slP 0 b_i b_n, .val (.int .i64 in_)], [(0, .row o_b .u8 b)] => .vc (isB ((b.drop b_i).take b_n) ∧ ((b.drop b_i).take b_n).length ≤ 1048576 ∧ in_ = 0) (.tup [.slF 2000, iv (getP 4 ((b.drop b_i).take b_n)).2]) [(2000, some (.row true .elem (getP 4 ((b.drop b_i).take b_n)).1))]
  | [.slF 0, .val (.int .i64 in_)], [(0, .row o_b .u8 b)] => .vc (isB b ∧ b.length ≤ 1048576 ∧ in_ = 0) (.tup [.slF 2000, iv (getP 4 b).2]) [(2000, some (.row true .elem (getP 4 b).1))]
  | _, _ => .fail "fareboxref04_GetS4"
abbrev k_fareboxref04_GetS4 : List (Option RK) := [some .u8, none]
def a_fareboxref04_GetS4 : List SV → List (Nat × VB) → Anns := fun args hp => match args, hp with
  | [.slP 0 b_i b_n, .val (.int .i64 in_)], [(0, .row o_b .u8 b)] => [(3, fun S => .inv [] [] [] fun ids vs rs => { cars := [.i 7 .i64, .r 6 true .elem], inv := fun ((i, es, _) : Int × List Elem × Unit) => IRG4 4 ((b.drop b_i).take b_n) i es, mu := fun ((i, es, _) : Int × List Elem × Unit) => ((b.drop b_i).take b_n).length - i.toNat })]
  | [.slF 0, .val (.int .i64 in_)], [(0, .row o_b .u8 b)] => [(3, fun S => .inv [] [] [] fun ids vs rs => { cars := [.i 7 .i64, .r 6 true .elem], inv := fun ((i, es, _) : Int × List Elem × Unit) => IRG4 4 b i es, mu := fun ((i, es, _) : Int × List Elem × Unit) => b.length - i.toNat })]
  | _, _ => []
set_option maxHeartbeats 20000000 in
theorem ok_fareboxref04_GetS4 : GOk Try.prog 92 (lift k_fareboxref04_GetS4 sp_fareboxref04_GetS4) := by
  refine pf_ok (T := T_fareboxref04_GetS4) (Γ := (92, lift k_fareboxref04_GetS3 sp_fareboxref04_GetS3) :: []) tOk_fareboxref04_GetS4 (gOks_cons ok_fareboxref04_GetS3 (gOks_nil _)) mixed Try.func92 (c := body Try.f92) (by kernel_rfl) (by kernel_rfl) k_fareboxref04_GetS4 sp_fareboxref04_GetS4 (by kernel_rfl) (by kernel_rfl) a_fareboxref04_GetS4 ?_
  intro args hp s u hfit h
  unfold sp_fareboxref04_GetS4 at h
  split at h
  · rename_i b_i b_n in_ o_b b
    obtain ⟨hvc, rfl, rfl⟩ := h.vc
    clear h
    change List Int at b
    conv => whnf
    repeat' (first
      | (refine And.intro ?_ ?_ <;> try conv => whnf)
      | (intro hh; first | (cases hh; done) | conv => whnf))
    all_goals try first | rfl | kernel_rfl
    all_goals try simp only [decide_eq_true_eq, decide_eq_false_iff_not] at *
    all_goals try simp only [Key_eta, Share_eta, Journey_eta, Batch_eta, FieldT_eta, OpB_eta, Product_eta, Item_eta, Delta_eta, Elem_eta, Rule_eta, Do10_eta, Key_beq, Share_beq, Journey_beq, FieldT_beq, Product_beq, Item_beq, Do10_beq, toNat0, toNat1, toNat2, toNat3, toNat4, toNat5, toNat6, toNat7, toNat8, toNat9, toNat10, toNat11, toNat12, toNat13, toNat14, toNat15, toNat16, toNat17, toNat18, toNat19, iA, iOf, atS, rwA, castK, zK, true_and, and_true, decide_eq_true_eq, decide_eq_false_iff_not, beq_iff_eq, bne_iff_ne, beq_eq_false_iff_ne, bne_eq_false_iff_eq, Bool.not_eq_true', Bool.not_eq_false', Bool.not_eq_true, Bool.not_eq_false, Nat.succ_eq_add_one, Int.not_lt, Int.not_le, gt_iff_lt, ge_iff_le, show bytesS T_fareboxref04_GetS4 43 = 1 from rfl, show bytesS T_fareboxref04_GetS4 104 = 56 from rfl] at *
    all_goals (
      have hf : b_n = 0 ∨ b_i + b_n ≤ b.length := hfit.1
      have hfn : ((b.drop b_i).take b_n).length = b_n := by
        rw [List.length_take, List.length_drop]
        omega
      have hge : ∀ i, i < b_n → ((b.drop b_i).take b_n).getD i 0 = b.getD (b_i + i) 0 := fun i hi => getD_take_drop hi)
    all_goals obtain ⟨hB, hL, rfl⟩ := hvc
    all_goals generalize hbb : ((b.drop b_i).take b_n) = bb at *
    all_goals subst hfn
    all_goals try (
      have hex := ‹IRG4 _ _ _ _›
      obtain ⟨i, e, rfl, rfl, hi, hel, hl0, hg⟩ := hex)
    all_goals try (have h4 : (4 : Int) ≤ 3 := ‹_›; exact absurd h4 (by decide))
    all_goals try (have h4 : (3 : Int) < 0 := ‹_›; exact absurd h4 (by decide))
    all_goals try (
      have hib : i < bb.length := by omega
      have t0 := hB.getD i
      have t1 := hB.getD (i + 1)
      have w0 : IntKind.i64.wrap (bb.getD i 0) = bb.getD i 0 := wrap64 (by omega) (by omega)
      have w1 : IntKind.i64.wrap ((i : Int) + 1) = ((i + 1 : Nat) : Int) := by rw [wrap64 (by omega) (by omega)]; omega
      have w2 : IntKind.i64.wrap ((i : Int) + 2) = ((i + 2 : Nat) : Int) := by rw [wrap64 (by omega) (by omega)]; omega
      have z0 : ((b_i : Int) + (i : Int)).toNat = b_i + i := by omega
      have g0 : b.getD (b_i + i) 0 = bb.getD i 0 := (hge i hib).symm
      try simp only [z0, g0] at *
      have hst := refGet_step (d := 4) (rec := recP 4) (last := lastT e) hib
      rw [hst] at hg
      try rw [show recP 4 = getP 3 from rfl] at hg
      try simp only [w0, w1, w2, Int.toNat_natCast] at *)
    all_goals try (
      have hp : 0 < e.length := by omega
      have hz : ((e.length : Int) - 1).toNat = e.length - 1 := by omega
      have hz2 : IntKind.i64.wrap ((e.length : Int) - 1) = (e.length : Int) - 1 := by rw [wrap64 (by omega) (by omega)]
      have hlt := lastT_getD (Elem.mk 0 [] [] : Elem) e hp
      simp only [hz, hz2, hlt] at *)
    all_goals try (
      have hnl := lastT_nil ‹(e.length : Int) ≤ 0›
      rw [hnl] at hg hst hl0)
    all_goals try (refine Vc.mk ?_; omega)
    all_goals try (
      have hib1 : i + 1 < bb.length := by omega
      have w3 : IntKind.i64.wrap (bb.getD (i + 1) 0) = bb.getD (i + 1) 0 := wrap64 (by omega) (by omega)
      have w4 : IntKind.i64.wrap (((i + 2 : Nat) : Int) + bb.getD (i + 1) 0) = ((i + 2 + (bb.getD (i + 1) 0).toNat : Nat) : Int) := by rw [wrap64 (by omega) (by omega)]; omega
      have w5 : IntKind.i64.wrap (((i + 2 : Nat) : Int) + ((bb.getD (i + 1) 0).toNat : Int)) = ((i + 2 + (bb.getD (i + 1) 0).toNat : Nat) : Int) := by rw [wrap64 (by omega) (by omega)]; omega
      have z1 : ((b_i : Int) + ((i + 1 : Nat) : Int)).toNat = b_i + (i + 1) := by omega
      have g1 : b.getD (b_i + (i + 1)) 0 = bb.getD (i + 1) 0 := (hge (i + 1) hib1).symm
      try simp only [z1, g1] at *
      try simp only [w3, w4, w5, Int.toNat_natCast, Nat.add_sub_cancel_left] at *)
    all_goals try (
      have hx : ((i + 2 + (bb.getD (i + 1) 0).toNat : Nat) : Int) ≤ bb.length := ‹_›
      have hpt := part2 (j := i + 2) (n := (bb.getD (i + 1) 0).toNat) hbb (by omega)
      try simp only [hpt] at *
      skip)
    all_goals try (refine Vc.mk ?_; first | omega | (simp only [List.length_take, List.length_drop, List.length_append, List.length_cons, List.length_nil]; omega) | (refine ⟨(hB.drop _).take _, ?_, by decide⟩; rw [List.length_take, List.length_drop]; omega))
    all_goals try (exact ⟨⟨0, [], rfl, rfl, Nat.zero_le _, Nat.le_refl _, Int.le_refl _, by rw [getP_eq]; exact getGo_preE _ _ _⟩⟩)
    all_goals try (
      have hend : bb.length ≤ i := by omega
      have hnil : bb.drop i = [] := List.drop_of_length_le hend
      rw [hnil] at hg
      have hq : getP 4 bb = (e, 0) := by rw [hg]; show preE e ([], 0) = (e, 0); simp [preE]
      exact Res.mk (by rw [hq]; exact ⟨rfl, rfl⟩))
    all_goals first
      | rw [if_neg (show ¬ (4 : Nat) = 0 by decide)] at hg
      | rw [if_neg not_false] at hg
    all_goals try (
      have hc : bb.getD i 0 ≤ 0 := by omega
      rw [if_pos (Int.le_trans hc hl0), preE_err _ (by decide)] at hg
      exact Res.mk (by rw [hg]; exact ⟨rfl, rfl⟩))
    all_goals try (
      have hc : bb.getD i 0 ≤ lastT e := ‹_›
      rw [if_pos hc, preE_err _ (by decide)] at hg
      exact Res.mk (by rw [hg]; exact ⟨rfl, rfl⟩))
    all_goals first
      | rw [if_neg (show ¬ bb.getD i 0 ≤ lastT e by omega)] at hg
      | rw [if_neg (show ¬ bb.getD i 0 ≤ 0 by omega)] at hg
    all_goals try (
      have hc : (bb.length : Int) ≤ i + 1 ∨ (bb.length : Int) < i + 2 + bb.getD (i + 1) 0 := by omega
      rw [if_pos hc, preE_err _ (by decide)] at hg
      exact Res.mk (by rw [hg]; exact ⟨rfl, rfl⟩))
    all_goals rw [if_neg (by omega)] at hg
    all_goals try (
      have hc : bb.getD i 0 < 128 := ‹_›
      rw [if_pos hc, preE_cons] at hg
      refine ⟨⟨i + 2 + (bb.getD (i + 1) 0).toNat, _, rfl, rfl, by omega, ?_, ?_, ?_⟩, by omega⟩
      · simp only [List.length_append, List.length_cons, List.length_nil]; omega
      · rw [lastT_snoc]; exact t0.1
      · rw [lastT_snoc]; exact hg)
    all_goals rw [if_neg (by omega)] at hg
    all_goals try (
      have hc : (getP 3 _).2 ≠ 0 := ‹_›
      rw [if_neg hc, preE_err _ hc] at hg
      exact Res.mk (by rw [hg]; exact ⟨rfl, rfl⟩))
    all_goals (
      have hc : (getP 3 _).2 = 0 := ‹_›
      rw [if_pos hc, preE_cons] at hg
      refine ⟨⟨i + 2 + (bb.getD (i + 1) 0).toNat, _, rfl, rfl, by omega, ?_, ?_, ?_⟩, by omega⟩
      · simp only [List.length_append, List.length_cons, List.length_nil]; omega
      · rw [lastT_snoc]; exact t0.1
      · rw [lastT_snoc]; exact hg)
  · rename_i in_ o_b b
    obtain ⟨hvc, rfl, rfl⟩ := h.vc
    clear h hfit
    change List Int at b
    conv => whnf
    repeat' (first
      | (refine And.intro ?_ ?_ <;> try conv => whnf)
      | (intro hh; first | (cases hh; done) | conv => whnf))
    all_goals try first | rfl | kernel_rfl
    all_goals try simp only [decide_eq_true_eq, decide_eq_false_iff_not] at *
    all_goals try simp only [Key_eta, Share_eta, Journey_eta, Batch_eta, FieldT_eta, OpB_eta, Product_eta, Item_eta, Delta_eta, Elem_eta, Rule_eta, Do10_eta, Key_beq, Share_beq, Journey_beq, FieldT_beq, Product_beq, Item_beq, Do10_beq, toNat0, toNat1, toNat2, toNat3, toNat4, toNat5, toNat6, toNat7, toNat8, toNat9, toNat10, toNat11, toNat12, toNat13, toNat14, toNat15, toNat16, toNat17, toNat18, toNat19, iA, iOf, atS, rwA, castK, zK, true_and, and_true, decide_eq_true_eq, decide_eq_false_iff_not, beq_iff_eq, bne_iff_ne, beq_eq_false_iff_ne, bne_eq_false_iff_eq, Bool.not_eq_true', Bool.not_eq_false', Bool.not_eq_true, Bool.not_eq_false, Nat.succ_eq_add_one, Int.not_lt, Int.not_le, gt_iff_lt, ge_iff_le, show bytesS T_fareboxref04_GetS4 43 = 1 from rfl, show bytesS T_fareboxref04_GetS4 104 = 56 from rfl] at *
    all_goals obtain ⟨hB, hL, rfl⟩ := hvc
    all_goals generalize hbb : b = bb at *
    all_goals subst hbb
    all_goals try (
      have hex := ‹IRG4 _ _ _ _›
      obtain ⟨i, e, rfl, rfl, hi, hel, hl0, hg⟩ := hex)
    all_goals try (have h4 : (4 : Int) ≤ 3 := ‹_›; exact absurd h4 (by decide))
    all_goals try (have h4 : (3 : Int) < 0 := ‹_›; exact absurd h4 (by decide))
    all_goals try (
      have hib : i < b.length := by omega
      have t0 := hB.getD i
      have t1 := hB.getD (i + 1)
      have w0 : IntKind.i64.wrap (b.getD i 0) = b.getD i 0 := wrap64 (by omega) (by omega)
      have w1 : IntKind.i64.wrap ((i : Int) + 1) = ((i + 1 : Nat) : Int) := by rw [wrap64 (by omega) (by omega)]; omega
      have w2 : IntKind.i64.wrap ((i : Int) + 2) = ((i + 2 : Nat) : Int) := by rw [wrap64 (by omega) (by omega)]; omega
      have hst := refGet_step (d := 4) (rec := recP 4) (last := lastT e) hib
      rw [hst] at hg
      try rw [show recP 4 = getP 3 from rfl] at hg
      try simp only [w0, w1, w2, Int.toNat_natCast] at *)
    all_goals try (
      have hp : 0 < e.length := by omega
      have hz : ((e.length : Int) - 1).toNat = e.length - 1 := by omega
      have hz2 : IntKind.i64.wrap ((e.length : Int) - 1) = (e.length : Int) - 1 := by rw [wrap64 (by omega) (by omega)]
      have hlt := lastT_getD (Elem.mk 0 [] [] : Elem) e hp
      simp only [hz, hz2, hlt] at *)
    all_goals try (
      have hnl := lastT_nil ‹(e.length : Int) ≤ 0›
      rw [hnl] at hg hst hl0)
    all_goals try (refine Vc.mk ?_; omega)
    all_goals try (
      have hib1 : i + 1 < b.length := by omega
      have w3 : IntKind.i64.wrap (b.getD (i + 1) 0) = b.getD (i + 1) 0 := wrap64 (by omega) (by omega)
      have w4 : IntKind.i64.wrap (((i + 2 : Nat) : Int) + b.getD (i + 1) 0) = ((i + 2 + (b.getD (i + 1) 0).toNat : Nat) : Int) := by rw [wrap64 (by omega) (by omega)]; omega
      have w5 : IntKind.i64.wrap (((i + 2 : Nat) : Int) + ((b.getD (i + 1) 0).toNat : Int)) = ((i + 2 + (b.getD (i + 1) 0).toNat : Nat) : Int) := by rw [wrap64 (by omega) (by omega)]; omega
      try simp only [w3, w4, w5, Int.toNat_natCast, Nat.add_sub_cancel_left] at *)
    all_goals try (
      have hx : ((i + 2 + (b.getD (i + 1) 0).toNat : Nat) : Int) ≤ b.length := ‹_›
      skip)
    all_goals try (refine Vc.mk ?_; first | omega | (simp only [List.length_take, List.length_drop, List.length_append, List.length_cons, List.length_nil]; omega) | (refine ⟨(hB.drop _).take _, ?_, by decide⟩; rw [List.length_take, List.length_drop]; omega))
    all_goals try (exact ⟨⟨0, [], rfl, rfl, Nat.zero_le _, Nat.le_refl _, Int.le_refl _, by rw [getP_eq]; exact getGo_preE _ _ _⟩⟩)
    all_goals try (
      have hend : b.length ≤ i := by omega
      have hnil : b.drop i = [] := List.drop_of_length_le hend
      rw [hnil] at hg
      have hq : getP 4 b = (e, 0) := by rw [hg]; show preE e ([], 0) = (e, 0); simp [preE]
      exact Res.mk (by rw [hq]; exact ⟨rfl, rfl⟩))
    all_goals first
      | rw [if_neg (show ¬ (4 : Nat) = 0 by decide)] at hg
      | rw [if_neg not_false] at hg
    all_goals try (
      have hc : b.getD i 0 ≤ 0 := by omega
      rw [if_pos (Int.le_trans hc hl0), preE_err _ (by decide)] at hg
      exact Res.mk (by rw [hg]; exact ⟨rfl, rfl⟩))
    all_goals try (
      have hc : b.getD i 0 ≤ lastT e := ‹_›
      rw [if_pos hc, preE_err _ (by decide)] at hg
      exact Res.mk (by rw [hg]; exact ⟨rfl, rfl⟩))
    all_goals first
      | rw [if_neg (show ¬ b.getD i 0 ≤ lastT e by omega)] at hg
      | rw [if_neg (show ¬ b.getD i 0 ≤ 0 by omega)] at hg
    all_goals try (
      have hc : (b.length : Int) ≤ i + 1 ∨ (b.length : Int) < i + 2 + b.getD (i + 1) 0 := by omega
      rw [if_pos hc, preE_err _ (by decide)] at hg
      exact Res.mk (by rw [hg]; exact ⟨rfl, rfl⟩))
    all_goals rw [if_neg (by omega)] at hg
    all_goals try (
      have hc : b.getD i 0 < 128 := ‹_›
      rw [if_pos hc, preE_cons] at hg
      refine ⟨⟨i + 2 + (b.getD (i + 1) 0).toNat, _, rfl, rfl, by omega, ?_, ?_, ?_⟩, by omega⟩
      · simp only [List.length_append, List.length_cons, List.length_nil]; omega
      · rw [lastT_snoc]; exact t0.1
      · rw [lastT_snoc]; exact hg)
    all_goals rw [if_neg (by omega)] at hg
    all_goals try (
      have hc : (getP 3 _).2 ≠ 0 := ‹_›
      rw [if_neg hc, preE_err _ hc] at hg
      exact Res.mk (by rw [hg]; exact ⟨rfl, rfl⟩))
    all_goals (
      have hc : (getP 3 _).2 = 0 := ‹_›
      rw [if_pos hc, preE_cons] at hg
      refine ⟨⟨i + 2 + (b.getD (i + 1) 0).toNat, _, rfl, rfl, by omega, ?_, ?_, ?_⟩, by omega⟩
      · simp only [List.length_append, List.length_cons, List.length_nil]; omega
      · rw [lastT_snoc]; exact t0.1
      · rw [lastT_snoc]; exact hg)
  · exact h.fail.elim

end Go.Proofs.Ytgajbggdamlhlaa.Sx
