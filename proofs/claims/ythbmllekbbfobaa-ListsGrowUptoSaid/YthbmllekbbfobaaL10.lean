import Derived.Test.YthbmllekbbfobaaProg
import Derived.Test.YthbmllekbbfobaaSxU
import Derived.IntWalk
import Derived.Test.YthbmllekbbfobaaL10c1
/-! lists, stable sorting -/
namespace Go.Proofs.Ythbmllekbbfobaa.Sx
open Go
set_option linter.unusedVariables false
set_option linter.unusedSimpArgs false
set_option maxRecDepth 100000

def T_slices_symMergeCmpFunc_api_Item : TT := [(3, ⟨.int .i64, 1, 8, [.int .i64 0], some .int⟩),
  (4, ⟨.bool, 1, 1, [.bool false], some .bool⟩),
  (22, ⟨.slice 52, 1, 24, [.slice none 0 0], none⟩),
  (52, ⟨.strct [(0, 3), (1, 3), (2, 3), (3, 3), (4, 3)], 5, 40, [.int .i64 0, .int .i64 0, .int .i64 0, .int .i64 0, .int .i64 0], some .item⟩),
  (170, ⟨.other, 1, 8, [.nilFunc], none⟩),
  (201, ⟨.int .u64, 1, 8, [.int .u64 0], none⟩)]
theorem tOk_slices_symMergeCmpFunc_api_Item : TOk Try.prog T_slices_symMergeCmpFunc_api_Item := tOk_of (by kernel_rfl)
def sp_slices_symMergeCmpFunc_api_Item (N : Nat) : Spec := fun args hp => match args, hp with
  | [.slF 0, .val (.int .i64 a), .val (.int .i64 k), .val (.int .i64 b), .fn (.func 92) [] []], [(0, .row true .item data)] => .vc (b - a ≤ (N : Int) ∧ (0 ≤ a ∧ a < k ∧ k < b ∧ b ≤ data.length ∧ data.length ≤ 4096) ∧ MonoN data a.toNat k.toNat ∧ MonoN data k.toNat b.toNat) (.tup []) [(0, some (.row true .item (mrg Item.number data a.toNat k.toNat b.toNat)))]
  | _, _ => .fail "slices_symMergeCmpFunc_api_Item"
abbrev k_slices_symMergeCmpFunc_api_Item : List (Option RK) := [some .item, none, none, none, none]
def a_slices_symMergeCmpFunc_api_Item : List SV → List (Nat × VB) → Anns := fun args hp => match args, hp with
  | [.slF 0, .val (.int .i64 a), .val (.int .i64 k), .val (.int .i64 b), .fn (.func 92) [] []], [(0, .row true .item data)] => [(3, fun S => .inv [] [] [] fun ids vs rs => { cars := [.i 10 .i64, .i 11 .i64], inv := fun ((i, j, _) : Int × Int × Unit) => IA1 data a.toNat k.toNat b.toNat i j, mu := fun ((i, j, _) : Int × Int × Unit) => j.toNat - i.toNat }),
    (9, fun S => .inv [pOf (S.get 0)] [S.get 10] [] fun ids vs rs => { cars := [.i 13 .i64, .row (atN ids 0) true .item], inv := fun ((x, xs, _) : Int × List Item × Unit) => IA2 data a.toNat ((iA vs 0)).toNat x xs, mu := fun ((x, xs, _) : Int × List Item × Unit) => ((iA vs 0)).toNat - x.toNat }),
    (15, fun S => .inv [] [] [] fun ids vs rs => { cars := [.i 14 .i64, .i 15 .i64], inv := fun ((i, j, _) : Int × Int × Unit) => IB1 data a.toNat k.toNat i j, mu := fun ((i, j, _) : Int × Int × Unit) => j.toNat - i.toNat }),
    (21, fun S => .inv [pOf (S.get 0)] [S.get 14] [] fun ids vs rs => { cars := [.i 17 .i64, .row (atN ids 0) true .item], inv := fun ((x, xs, _) : Int × List Item × Unit) => IB2 data k.toNat ((iA vs 0)).toNat x xs, mu := fun ((x, xs, _) : Int × List Item × Unit) => x.toNat }),
    (33, fun S => .inv [] [S.get 22, S.get 20, S.get 21] [] fun ids vs rs => { cars := [.i 20 .i64, .i 21 .i64], inv := fun ((s, r, _) : Int × Int × Unit) => ICs data ((iA vs 0)).toNat ((iA vs 1)).toNat ((iA vs 2)).toNat s r, mu := fun ((s, r, _) : Int × Int × Unit) => r.toNat - s.toNat })]
  | _, _ => []
set_option maxHeartbeats 20000000 in
theorem ok_slices_symMergeCmpFunc_api_Item : ∀ N : Nat, GOk Try.prog 152 (lift k_slices_symMergeCmpFunc_api_Item (sp_slices_symMergeCmpFunc_api_Item N)) := by
  intro N
  induction N with
  | zero =>
    refine pf_ok (T := T_slices_symMergeCmpFunc_api_Item) (Γ := []) tOk_slices_symMergeCmpFunc_api_Item (gOks_nil _) mixed Try.func152 (c := body Try.f152) (by kernel_rfl) (by kernel_rfl) k_slices_symMergeCmpFunc_api_Item (sp_slices_symMergeCmpFunc_api_Item 0) (by kernel_rfl) (by kernel_rfl) a_slices_symMergeCmpFunc_api_Item ?_
    intro args hp s u hfit h
    unfold sp_slices_symMergeCmpFunc_api_Item at h
    split at h
    · obtain ⟨hvc, _⟩ := h.vc
      exfalso
      omega
    · exact h.fail.elim
  | succ N ih =>
  refine pf_ok (T := T_slices_symMergeCmpFunc_api_Item) (Γ := (152, lift k_slices_symMergeCmpFunc_api_Item (sp_slices_symMergeCmpFunc_api_Item N)) :: (157, lift k_slices_rotateCmpFunc_api_Item sp_slices_rotateCmpFunc_api_Item) :: (92, lift k_lists_Act_For_1 sp_lists_Act_For_1) :: []) tOk_slices_symMergeCmpFunc_api_Item (gOks_cons ih (gOks_cons ok_slices_rotateCmpFunc_api_Item (gOks_cons ok_lists_Act_For_1 (gOks_nil _)))) mixed Try.func152 (c := body Try.f152) (by kernel_rfl) (by kernel_rfl) k_slices_symMergeCmpFunc_api_Item (sp_slices_symMergeCmpFunc_api_Item (N + 1)) (by kernel_rfl) (by kernel_rfl) a_slices_symMergeCmpFunc_api_Item ?_
  intro args hp s u hfit h
  unfold sp_slices_symMergeCmpFunc_api_Item at h
  split at h
  · rename_i a k b data
    obtain ⟨hvc, rfl, rfl⟩ := h.vc
    clear h hfit
    change List Item at data
    conv => whnf
    repeat' (first
      | (refine And.intro ?_ ?_ <;> try conv => whnf)
      | (intro hh; first | (cases hh; done) | conv => whnf))
    all_goals try first | rfl | kernel_rfl
    all_goals try simp only [decide_eq_true_eq, decide_eq_false_iff_not] at *
    all_goals try simp only [Key_eta, Share_eta, Journey_eta, Batch_eta, FieldT_eta, OpB_eta, Product_eta, Item_eta, Delta_eta, Elem_eta, Rule_eta, Do10_eta, Ask_eta, Key_beq, Share_beq, Journey_beq, FieldT_beq, Product_beq, Item_beq, Do10_beq, Ask_beq, toNat0, toNat1, toNat2, toNat3, toNat4, toNat5, toNat6, toNat7, toNat8, toNat9, toNat10, toNat11, toNat12, toNat13, toNat14, toNat15, toNat16, toNat17, toNat18, toNat19, iA, iOf, atS, rwA, castK, zK, true_and, and_true, decide_eq_true_eq, decide_eq_false_iff_not, beq_iff_eq, bne_iff_ne, beq_eq_false_iff_ne, bne_eq_false_iff_eq, Bool.not_eq_true', Bool.not_eq_false', Bool.not_eq_true, Bool.not_eq_false, Nat.succ_eq_add_one, Int.not_lt, Int.not_le, gt_iff_lt, ge_iff_le, show bytesS T_slices_symMergeCmpFunc_api_Item 22 = 40 from rfl] at *
    all_goals obtain ⟨hN, ⟨h0, h1, h2, h3, h4⟩, hM, hM'⟩ := hvc
    all_goals obtain ⟨a', rfl⟩ := natI h0
    all_goals obtain ⟨k', rfl⟩ := natI (show 0 ≤ k by omega)
    all_goals obtain ⟨b', rfl⟩ := natI (show 0 ≤ b by omega)
    all_goals have hd := half2 (p := a') (q := b') (by omega)
    all_goals have hn : IntKind.i64.wrap ((((a' + b') / 2 : Nat) : Int) + k') = (((a' + b') / 2 + k' : Nat) : Int) := by rw [wrap64 (by omega) (by omega)]; omega
    all_goals have hP : IntKind.i64.wrap ((((a' + b') / 2 + k' : Nat) : Int) - 1) = (((a' + b') / 2 + k' - 1 : Nat) : Int) := by rw [wrap64 (by omega) (by omega)]; omega
    all_goals have hka : IntKind.i64.wrap ((k' : Int) - a') = ((k' - a' : Nat) : Int) := by rw [wrap64 (by omega) (by omega)]; omega
    all_goals have hbk : IntKind.i64.wrap ((b' : Int) - k') = ((b' - k' : Nat) : Int) := by rw [wrap64 (by omega) (by omega)]; omega
    all_goals simp only [hd, hn, hP, hka, hbk, Int.toNat_natCast] at *
    all_goals try (
      have hs0 : IntKind.i64.wrap ((((a' + b') / 2 + k' : Nat) : Int) - b') = (((a' + b') / 2 + k' - b' : Nat) : Int) := by rw [wrap64 (by omega) (by omega)]; omega
      simp only [hs0, Int.toNat_natCast] at *)
    all_goals try (
      have z := ‹IA1 _ _ _ _ _ _›
      obtain ⟨p, q, rfl, rfl, i1, i2, i3, i4, i5⟩ := z
      have hh := half2 (p := p) (q := q) (by omega)
      have hh1 : IntKind.i64.wrap ((((p + q) / 2 : Nat) : Int) + 1) = (((p + q) / 2 + 1 : Nat) : Int) := by rw [wrap64 (by omega) (by omega)]; omega
      simp only [hh, hh1, Int.toNat_natCast] at *)
    all_goals try (
      have z := ‹IB1 _ _ _ _ _›
      obtain ⟨p, q, rfl, rfl, i1, i2, i3, i4, i5⟩ := z
      have hh := half2 (p := p) (q := q) (by omega)
      have hh1 : IntKind.i64.wrap ((((p + q) / 2 : Nat) : Int) + 1) = (((p + q) / 2 + 1 : Nat) : Int) := by rw [wrap64 (by omega) (by omega)]; omega
      simp only [hh, hh1, Int.toNat_natCast] at *)
    all_goals try (
      have z := ‹IA2 _ _ _ _ _›
      obtain ⟨x, rfl, x1, x2, x3⟩ := z
      have xl := x3.1
      have hx1 : IntKind.i64.wrap ((x : Int) + 1) = ((x + 1 : Nat) : Int) := by rw [wrap64 (by omega) (by omega)]; omega
      have hp1 : IntKind.i64.wrap ((p : Int) - 1) = ((p - 1 : Nat) : Int) := by rw [wrap64 (by omega) (by omega)]; omega
      try simp only [hx1, hp1, Int.toNat_natCast] at *)
    all_goals try (
      have z := ‹IB2 _ _ _ _ _›
      obtain ⟨x, rfl, x1, x2, x3⟩ := z
      have xl := x3.1
      try simp only [Int.toNat_natCast] at *)
    all_goals try (
      have hxp : p < x := by omega
      obtain ⟨y, rfl⟩ : ∃ y, x = y + 1 := ⟨x - 1, by omega⟩
      have hy1 : IntKind.i64.wrap (((y + 1 : Nat) : Int) - 1) = (y : Int) := by rw [wrap64 (by omega) (by omega)]; omega
      try simp only [hy1, Int.toNat_natCast] at *)
    all_goals try (
      have z := ‹ICs _ _ _ _ _ _›
      have hic := z
      obtain ⟨p, q, rfl, rfl, i1, i2, i3, i4, i5⟩ := z
      have hh := half2 (p := p) (q := q) (by omega)
      have hh1 : IntKind.i64.wrap ((((p + q) / 2 : Nat) : Int) + 1) = (((p + q) / 2 + 1 : Nat) : Int) := by rw [wrap64 (by omega) (by omega)]; omega
      simp only [hh, hh1, Int.toNat_natCast] at *)
    all_goals try (exact Vc.mk (by decide))
    all_goals try (
      have hpq : p < q := by omega
      have hS := span_hi (a := a') (k := k') (b := b') (by omega) (by omega) (by omega)
      have hS1 := hS ((p + q) / 2) (by omega) (by omega)
      have hPc : IntKind.i64.wrap ((((a' + b') / 2 + k' - 1 : Nat) : Int) - (((p + q) / 2 : Nat) : Int)) = (((a' + b') / 2 + k' - 1 - (p + q) / 2 : Nat) : Int) := by rw [wrap64 (by omega) (by omega)]; omega
      simp only [hPc, Int.toNat_natCast] at *)
    all_goals try (
      have hpq : p < q := by omega
      have hS := span_lo (a := a') (k := k') (b := b') (by omega) (by omega) (by omega)
      have hS1 := hS ((p + q) / 2) (by omega) (by omega)
      have hPc : IntKind.i64.wrap ((((a' + b') / 2 + k' - 1 : Nat) : Int) - (((p + q) / 2 : Nat) : Int)) = (((a' + b') / 2 + k' - 1 - (p + q) / 2 : Nat) : Int) := by rw [wrap64 (by omega) (by omega)]; omega
      simp only [hPc, Int.toNat_natCast] at *)
    all_goals try (refine Vc.mk ?_; (try rw [List.length_set]); omega)
    all_goals try (
      have hqp : q ≤ p := by omega
      first
        | have hm := mid_hi (by omega) (by omega) (by omega) hM hM' hic (by omega)
        | have hm := mid_lo (by omega) (by omega) (by omega) hM hM' hic (by omega)
      have m1 := hm.as_
      have m2 := hm.sk
      have m3 := hm.ke
      have m4 := hm.eb
      have m5 := hm.sd
      have m6 := hm.de
      have he : IntKind.i64.wrap ((((a' + b') / 2 + k' : Nat) : Int) - p) = (((a' + b') / 2 + k' - p : Nat) : Int) := by rw [wrap64 (by omega) (by omega)]; omega
      have l1m := l1_mono hm (by omega) hM hM'
      have l2m := l2_mono hm (by omega) hM hM'
      have l1l := l1_len (l := data) (s := p) (k := k') (e := (a' + b') / 2 + k' - p)
      have l2l := l2_len hm (by omega)
      have hend := sym_end hm (by omega)
      try simp only [he, Int.toNat_natCast] at *
      try (
        have e1 := l1_no (l := data) m2 m3 (by omega)
        rw [e1] at l1m l2m l1l l2l hend)
      try (
        have e2 := fun l => l2_no (l := l) m1 m5 (by omega)
        rw [e2] at l2m l2l hend)
      try (
        have e3 := fun l => l2_no (l := l) m6 m4 (by omega)
        rw [e3] at hend)
      try simp only [L1s] at l1m l2m l1l l2l hend)
    all_goals try (exact Res.mk hend)
    all_goals try (refine Vc.mk ?_; omega)
    all_goals try (exact Vc.mk ⟨by omega, ⟨by omega, by omega, by omega, by omega, by omega⟩, l1m.1, l1m.2.1⟩)
    all_goals try (exact Vc.mk ⟨by omega, ⟨by omega, by omega, by omega, by omega, by omega⟩, l2m.1, l2m.2⟩)
    all_goals try (
      have hqp : q ≤ p := by omega
      exfalso
      omega)
    · exact ⟨⟨k', b', rfl, rfl, Nat.le_refl _, by omega, Nat.le_refl _, fun c _ _ => absurd ‹_› (by omega), fun c _ _ => absurd ‹_› (by omega)⟩⟩
    · exact ⟨ia_up hM' i1 (by omega) i3 i5 (cmpI_neg.1 ‹cmpI _ _ < 0›), by omega⟩
    · exact ⟨ia_down hM' i1 (by omega) i3 i4 ((not_congr cmpI_neg).1 (Int.not_lt.2 ‹0 ≤ cmpI _ _›)), by omega⟩
    · exact ⟨⟨a', rfl, Nat.le_refl _, by omega, PI.start fun p => by unfold rotI; (repeat' split) <;> omega⟩⟩
    · exact ⟨⟨x + 1, rfl, by omega, by omega, rot_up x3 (by omega) (by omega)⟩, by omega⟩
    · obtain rfl : k' = a' + 1 := by omega
      obtain rfl : p = x + 1 := by omega
      obtain rfl : q = x + 1 := by omega
      exact Res.mk (x3.eq.trans (mrg_left (by omega) (by omega) (by omega) i4 i5))
    · exact ⟨⟨a', k', rfl, rfl, Nat.le_refl _, by omega, Nat.le_refl _, fun c _ _ => absurd ‹_› (by omega), fun c _ _ => absurd ‹_› (by omega)⟩⟩
    · have hc0 := of_decide_eq_false ‹decide (cmpI _ _ < 0) = false›
      exact ⟨ib_up hM i1 (by omega) i3 i5 ((not_congr cmpI_neg).1 hc0), by omega⟩
    · have hc0 := of_decide_eq_true ‹decide (cmpI _ _ < 0) = true›
      exact ⟨ib_down hM i1 (by omega) i3 i4 (cmpI_neg.1 hc0), by omega⟩
    · exact ⟨⟨k', rfl, by omega, Nat.le_refl _, PI.start fun p => by unfold rotI; (repeat' split) <;> omega⟩⟩
    · exact ⟨⟨y, rfl, by omega, by omega, rot_down x3 (by omega) (by omega)⟩, by omega⟩
    · obtain rfl : b' = k' + 1 := by omega
      obtain rfl : p = x := by omega
      obtain rfl : q = p := by omega
      exact Res.mk (x3.eq.trans (mrg_right (by omega) (by omega) (by omega) i4 i5))
    · exact ⟨⟨_, _, rfl, rfl, Nat.le_refl _, by omega, Nat.le_refl _, fun c _ _ => absurd ‹_› (by omega), fun c _ _ => absurd ‹_› (by omega)⟩⟩
    · have hc0 := of_decide_eq_false ‹decide (cmpI _ _ < 0) = false›
      exact ⟨ic_up (span_hi (by omega) (by omega) (by omega)) hM hM' i1 (by omega) i3 i5 ((not_congr cmpI_neg).1 hc0), by omega⟩
    · have hc0 := of_decide_eq_true ‹decide (cmpI _ _ < 0) = true›
      exact ⟨ic_down (span_hi (by omega) (by omega) (by omega)) hM hM' i1 (by omega) i3 i4 (cmpI_neg.1 hc0), by omega⟩
    · exact ⟨⟨_, _, rfl, rfl, Nat.le_refl _, by omega, Nat.le_refl _, fun c _ _ => absurd ‹_› (by omega), fun c _ _ => absurd ‹_› (by omega)⟩⟩
    · have hc0 := of_decide_eq_false ‹decide (cmpI _ _ < 0) = false›
      exact ⟨ic_up (span_lo (by omega) (by omega) (by omega)) hM hM' i1 (by omega) i3 i5 ((not_congr cmpI_neg).1 hc0), by omega⟩
    · have hc0 := of_decide_eq_true ‹decide (cmpI _ _ < 0) = true›
      exact ⟨ic_down (span_lo (by omega) (by omega) (by omega)) hM hM' i1 (by omega) i3 i4 (cmpI_neg.1 hc0), by omega⟩
  · exact h.fail.elim

end Go.Proofs.Ythbmllekbbfobaa.Sx
