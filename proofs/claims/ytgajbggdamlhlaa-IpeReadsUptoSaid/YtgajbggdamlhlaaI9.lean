import Derived.Test.YtgajbggdamlhlaaProg
import Derived.Test.YtgajbggdamlhlaaSxU
import Derived.IntWalk
import Derived.Test.YtgajbggdamlhlaaI9c1
/-! ipe, what may be done -/
namespace Go.Proofs.Ytgajbggdamlhlaa.Sx
open Go
set_option linter.unusedVariables false
set_option linter.unusedSimpArgs false
set_option maxRecDepth 100000

def T_fareboxref10_Do : TT := [(3, ⟨.int .i64, 1, 8, [.int .i64 0], some .int⟩),
  (4, ⟨.bool, 1, 1, [.bool false], some .bool⟩),
  (39, ⟨.int .i64, 1, 8, [.int .i64 0], some .int⟩),
  (41, ⟨.strct [(0, 39), (1, 3), (2, 3), (3, 3), (4, 3), (5, 3), (6, 3), (7, 3), (8, 4), (9, 3), (10, 3), (11, 3), (12, 3), (13, 4)], 14, 112, [.int .i64 0, .int .i64 0, .int .i64 0, .int .i64 0, .int .i64 0, .int .i64 0, .int .i64 0, .int .i64 0, .bool false, .int .i64 0, .int .i64 0, .int .i64 0, .int .i64 0, .bool false], some .product⟩)]
theorem tOk_fareboxref10_Do : TOk Try.prog T_fareboxref10_Do := tOk_of (by kernel_rfl)
def sp_fareboxref10_Do : Spec := fun args hp => match args, hp with
  | [.agg p_cs, .val (.int .i64 k), .val (.int .i64 a), .val (.int .i64 b)], [] => (match decS .product p_cs with
    | some p => .vc (rightP p = true ∧ 0 ≤ k ∧ k ≤ 3) (.tup [svProduct (doP p k a b), iv (doE p k a b)]) []
    | none => .fail "struct")
  | _, _ => .fail "fareboxref10_Do"
abbrev k_fareboxref10_Do : List (Option RK) := [none, none, none, none]
def a_fareboxref10_Do : List SV → List (Nat × VB) → Anns := fun _ _ => []
set_option maxHeartbeats 20000000 in
theorem ok_fareboxref10_Do : GOk Try.prog 28 (lift k_fareboxref10_Do sp_fareboxref10_Do) := by
  refine pf_ok (T := T_fareboxref10_Do) (Γ := (59, lift k_fareboxref10_ride sp_fareboxref10_ride) :: []) tOk_fareboxref10_Do (gOks_cons ok_fareboxref10_ride (gOks_nil _)) mixed Try.func28 (c := body Try.f28) (by kernel_rfl) (by kernel_rfl) k_fareboxref10_Do sp_fareboxref10_Do (by kernel_rfl) (by kernel_rfl) a_fareboxref10_Do ?_
  intro args hp s u hfit h
  unfold sp_fareboxref10_Do at h
  split at h
  · rename_i p_cs k a b
    split at h
    case h_2 => exact h.fail.elim
    rename_i p h_p
    obtain rfl := decS_ok (k := .product) rfl h_p
    clear h_p
    change Product at p
    obtain ⟨hvc, rfl, rfl⟩ := h.vc
    clear h hfit
    obtain ⟨hR, hk0, hk3⟩ := hvc
    have hk : k = 0 ∨ k = 1 ∨ k = 2 ∨ k = 3 := by omega
    clear hk0 hk3
    rcases hk with rfl | rfl | rfl | rfl
    all_goals (
      conv => whnf
      repeat' (first
        | (refine And.intro ?_ ?_ <;> try conv => whnf)
        | (intro hh; first | (cases hh; done) | conv => whnf)))
    all_goals try first | rfl | kernel_rfl
    all_goals try simp only [decide_eq_true_eq, decide_eq_false_iff_not] at *
    all_goals try simp only [Key_eta, Share_eta, Journey_eta, Batch_eta, FieldT_eta, OpB_eta, Product_eta, Item_eta, Delta_eta, Elem_eta, Rule_eta, Do10_eta, Key_beq, Share_beq, Journey_beq, FieldT_beq, Product_beq, Item_beq, Do10_beq, toNat0, toNat1, toNat2, toNat3, toNat4, toNat5, toNat6, toNat7, toNat8, toNat9, toNat10, toNat11, toNat12, toNat13, toNat14, toNat15, toNat16, toNat17, toNat18, toNat19, iA, iOf, atS, rwA, castK, zK, true_and, and_true, decide_eq_true_eq, decide_eq_false_iff_not, beq_iff_eq, bne_iff_ne, beq_eq_false_iff_ne, bne_eq_false_iff_eq, Bool.not_eq_true', Bool.not_eq_false', Bool.not_eq_true, Bool.not_eq_false, Nat.succ_eq_add_one, Int.not_lt, Int.not_le, gt_iff_lt, ge_iff_le] at *
    all_goals have hQ := right_iff.1 hR
    all_goals obtain ⟨⟨a1, a2⟩, ⟨b1, b2⟩, ⟨c1, c2⟩, ⟨d1, d2⟩, ⟨e1, e2⟩, ⟨f1, f2⟩, ⟨g1, g2⟩, ⟨h1, h2⟩, ⟨i1, i2⟩, ⟨j1, j2⟩, ⟨k1, k2⟩, ⟨l1, l2⟩⟩ := hQ
    all_goals try (exact Vc.mk hR)
    all_goals try simp only [doE0, doE1, doE2, doE3, doP0, doP1, doP2, doP3] at *
    all_goals have w1 : IntKind.i64.wrap (p.txn + 1) = p.txn + 1 := wrap64 (by omega) (by omega)
    all_goals have w2 : IntKind.i64.wrap (p.rides - 1) = p.rides - 1 := wrap64 (by omega) (by omega)
    all_goals have w3 : IntKind.i64.wrap (2147483648 - p.value) = 2147483648 - p.value := wrap64 (by omega) (by omega)
    all_goals try simp only [w1, w2, w3] at *
    all_goals try (
      have w4 : IntKind.i64.wrap (p.value - a) = p.value - a := wrap64 (by omega) (by omega)
      simp only [w4] at *)
    all_goals try (
      have w5 : IntKind.i64.wrap (p.value + a) = p.value + a := wrap64 (by omega) (by omega)
      simp only [w5] at *)
    all_goals try (
      refine Res.mk (fields_err (E := rdE p a) (Q := rdP p a) ?_ (by first | decide | assumption) rfl)
      · rw [rdE_R]
        cases hb : p.blocked <;> cases ho : p.open_ <;> simp only [hb, ho, Bool.false_eq_true, if_false, if_true, true_and, and_true, not_true_eq_false, not_false_eq_true, Bool.true_eq_false, and_false, false_and] at *
        all_goals (repeat' split) <;> first | rfl | omega | (simp_all; done) | (simp_all; omega))
    all_goals try (
      have hE : rdE p a = 0 := by
        rw [rdE_R]
        cases hb : p.blocked <;> cases ho : p.open_ <;> simp only [hb, ho, Bool.false_eq_true, if_false, if_true, true_and, and_true, not_true_eq_false, not_false_eq_true, Bool.true_eq_false, and_false, false_and] at *
        all_goals (repeat' split) <;> first | rfl | omega | (simp_all; done) | (simp_all; omega)
      have hP : rdP p a = { p with rides := p.rides - 1, txn := p.txn + 1 } := by
        unfold rdP
        rw [if_pos hE , if_pos (show counted p by unfold counted; omega)]
      rw [hE, hP]
      exact Res.mk ⟨rfl, rfl, rfl, rfl, rfl, rfl, rfl, rfl, rfl, rfl, rfl, rfl, rfl, rfl, rfl⟩)
    all_goals try (
      refine Res.mk (fields_err (E := rdE p a) (Q := rdP p a) ?_ (by first | decide | assumption) rfl)
      · rw [rdE_R]
        cases hb : p.blocked <;> cases ho : p.open_ <;> simp only [hb, ho, Bool.false_eq_true, if_false, if_true, true_and, and_true, not_true_eq_false, not_false_eq_true, Bool.true_eq_false, and_false, false_and] at *
        all_goals (repeat' split) <;> first | rfl | omega | (simp_all; done) | (simp_all; omega))
    all_goals try (
      have hE : rdE p a = 0 := by
        rw [rdE_R]
        cases hb : p.blocked <;> cases ho : p.open_ <;> simp only [hb, ho, Bool.false_eq_true, if_false, if_true, true_and, and_true, not_true_eq_false, not_false_eq_true, Bool.true_eq_false, and_false, false_and] at *
        all_goals (repeat' split) <;> first | rfl | omega | (simp_all; done) | (simp_all; omega)
      have hP : rdP p a = { p with txn := p.txn + 1 } := by
        unfold rdP
        rw [if_pos hE , if_neg (show ¬ counted p by unfold counted; omega)]
      rw [hE, hP]
      exact Res.mk ⟨rfl, rfl, rfl, rfl, rfl, rfl, rfl, rfl, rfl, rfl, rfl, rfl, rfl, rfl, rfl⟩)
    all_goals try (
      refine Res.mk (fields_err (E := jnE p a b) (Q := jnP p a b) ?_ (by first | decide | assumption) rfl)
      · unfold jnE
        cases hb : p.blocked <;> cases ho : p.open_ <;> simp only [hb, ho, Bool.false_eq_true, if_false, if_true, true_and, and_true, not_true_eq_false, not_false_eq_true, Bool.true_eq_false, and_false, false_and] at *
        all_goals (repeat' split) <;> first | rfl | omega | (simp_all; done) | (simp_all; omega))
    all_goals try (
      have hE : jnE p a b = 0 := by
        unfold jnE
        cases hb : p.blocked <;> cases ho : p.open_ <;> simp only [hb, ho, Bool.false_eq_true, if_false, if_true, true_and, and_true, not_true_eq_false, not_false_eq_true, Bool.true_eq_false, and_false, false_and] at *
        all_goals (repeat' split) <;> first | rfl | omega | (simp_all; done) | (simp_all; omega)
      have hP : jnP p a b = { p with open_ := true, zone := a, day := b, txn := p.txn + 1 } := by
        unfold jnP
        rw [if_pos hE ]
      rw [hE, hP]
      exact Res.mk ⟨rfl, rfl, rfl, rfl, rfl, rfl, rfl, rfl, rfl, rfl, rfl, rfl, rfl, rfl, rfl⟩)
    all_goals try (
      refine Res.mk (fields_err (E := jtE p a) (Q := jtP p a) ?_ (by first | decide | assumption) rfl)
      · unfold jtE
        cases hb : p.blocked <;> cases ho : p.open_ <;> simp only [hb, ho, Bool.false_eq_true, if_false, if_true, true_and, and_true, not_true_eq_false, not_false_eq_true, Bool.true_eq_false, and_false, false_and] at *
        all_goals (repeat' split) <;> first | rfl | omega | (simp_all; done) | (simp_all; omega))
    all_goals try (
      have hE : jtE p a = 0 := by
        unfold jtE
        cases hb : p.blocked <;> cases ho : p.open_ <;> simp only [hb, ho, Bool.false_eq_true, if_false, if_true, true_and, and_true, not_true_eq_false, not_false_eq_true, Bool.true_eq_false, and_false, false_and] at *
        all_goals (repeat' split) <;> first | rfl | omega | (simp_all; done) | (simp_all; omega)
      have hP : jtP p a = { p with value := p.value - a, open_ := false, zone := 0, day := 0, txn := p.txn + 1 } := by
        unfold jtP
        rw [if_pos hE ]
      rw [hE, hP]
      exact Res.mk ⟨rfl, rfl, rfl, rfl, rfl, rfl, rfl, rfl, rfl, rfl, rfl, rfl, rfl, rfl, rfl⟩)
    all_goals try (
      refine Res.mk (fields_err (E := adE p a) (Q := adP p a) ?_ (by first | decide | assumption) rfl)
      · unfold adE
        cases hb : p.blocked <;> cases ho : p.open_ <;> simp only [hb, ho, Bool.false_eq_true, if_false, if_true, true_and, and_true, not_true_eq_false, not_false_eq_true, Bool.true_eq_false, and_false, false_and] at *
        all_goals (repeat' split) <;> first | rfl | omega | (simp_all; done) | (simp_all; omega))
    all_goals try (
      have hE : adE p a = 0 := by
        unfold adE
        cases hb : p.blocked <;> cases ho : p.open_ <;> simp only [hb, ho, Bool.false_eq_true, if_false, if_true, true_and, and_true, not_true_eq_false, not_false_eq_true, Bool.true_eq_false, and_false, false_and] at *
        all_goals (repeat' split) <;> first | rfl | omega | (simp_all; done) | (simp_all; omega)
      have hP : adP p a = { p with value := p.value + a, txn := p.txn + 1 } := by
        unfold adP
        rw [if_pos hE ]
      rw [hE, hP]
      exact Res.mk ⟨rfl, rfl, rfl, rfl, rfl, rfl, rfl, rfl, rfl, rfl, rfl, rfl, rfl, rfl, rfl⟩)
    all_goals trace_state
    all_goals sorry
  · exact h.fail.elim

end Go.Proofs.Ytgajbggdamlhlaa.Sx
