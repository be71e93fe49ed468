import Derived.Test.YthbmllekbbfobaaProg
import Derived.Test.YthbmllekbbfobaaSxU
import Derived.IntWalk
import Derived.Test.YthbmllekbbfobaaI9c0
/-! ipe, what may be done -/
namespace Go.Proofs.Ythbmllekbbfobaa.Sx
open Go
set_option linter.unusedVariables false
set_option linter.unusedSimpArgs false
set_option maxRecDepth 100000

def T_ipe_Thing_In : TT := [(3, ⟨.int .i64, 1, 8, [.int .i64 0], some .int⟩),
  (4, ⟨.bool, 1, 1, [.bool false], some .bool⟩),
  (27, ⟨.int .i64, 1, 8, [.int .i64 0], some .int⟩),
  (56, ⟨.int .i64, 1, 8, [.int .i64 0], some .int⟩),
  (58, ⟨.strct [(0, 56), (1, 3), (2, 3), (3, 3), (4, 3), (5, 3), (6, 3), (7, 3), (8, 4), (9, 3), (10, 3), (11, 3), (12, 3), (13, 4)], 14, 112, [.int .i64 0, .int .i64 0, .int .i64 0, .int .i64 0, .int .i64 0, .int .i64 0, .int .i64 0, .int .i64 0, .bool false, .int .i64 0, .int .i64 0, .int .i64 0, .int .i64 0, .bool false], some .product⟩),
  (153, ⟨.strct [(0, 58)], 14, 112, [.int .i64 0, .int .i64 0, .int .i64 0, .int .i64 0, .int .i64 0, .int .i64 0, .int .i64 0, .int .i64 0, .bool false, .int .i64 0, .int .i64 0, .int .i64 0, .int .i64 0, .bool false], none⟩),
  (217, ⟨.slice 27, 1, 24, [.slice none 0 0], none⟩)]
theorem tOk_ipe_Thing_In : TOk Try.prog T_ipe_Thing_In := tOk_of (by kernel_rfl)
def sp_ipe_Thing_In : Spec := fun args hp => match args, hp with
  | [.agg p_cs, .val (.int .i64 zone), .val (.int .i64 day)], [] => (match decS .product p_cs with
    | some p => .vc (rightP p = true) (.tup [svProduct (jnP p zone day), iv (jnE p zone day)]) []
    | none => .fail "struct")
  | _, _ => .fail "ipe_Thing_In"
abbrev k_ipe_Thing_In : List (Option RK) := [none, none, none]
def a_ipe_Thing_In : List SV → List (Nat × VB) → Anns := fun _ _ => []
set_option maxHeartbeats 20000000 in
theorem ok_ipe_Thing_In : GOk Try.prog 78 (lift k_ipe_Thing_In sp_ipe_Thing_In) := by
  refine pf_ok (T := T_ipe_Thing_In) (Γ := (121, lift k_ipe_unless sp_ipe_unless) :: (122, lift k_ipe_in sp_ipe_in) :: (123, lift k_ipe_Thing_done sp_ipe_Thing_done) :: []) tOk_ipe_Thing_In (gOks_cons ok_ipe_unless (gOks_cons ok_ipe_in (gOks_cons ok_ipe_Thing_done (gOks_nil _)))) mixed Try.func78 (c := body Try.f78) (by kernel_rfl) (by kernel_rfl) k_ipe_Thing_In sp_ipe_Thing_In (by kernel_rfl) (by kernel_rfl) a_ipe_Thing_In ?_
  intro args hp s u hfit h
  unfold sp_ipe_Thing_In at h
  split at h
  · rename_i p_cs zone day
    split at h
    case h_2 => exact h.fail.elim
    rename_i p h_p
    obtain rfl := decS_ok (k := .product) rfl h_p
    clear h_p
    change Product at p
    obtain ⟨hvc, rfl, rfl⟩ := h.vc
    clear h hfit
    conv => whnf
    repeat' (first
      | (refine And.intro ?_ ?_ <;> try conv => whnf)
      | (intro hh; first | (cases hh; done) | conv => whnf))
    all_goals try first | rfl | kernel_rfl
    all_goals try simp only [decide_eq_true_eq, decide_eq_false_iff_not] at *
    all_goals try simp only [Key_eta, Share_eta, Journey_eta, Batch_eta, FieldT_eta, OpB_eta, Product_eta, Item_eta, Delta_eta, Elem_eta, Rule_eta, Do10_eta, Key_beq, Share_beq, Journey_beq, FieldT_beq, Product_beq, Item_beq, Do10_beq, toNat0, toNat1, toNat2, toNat3, toNat4, toNat5, toNat6, toNat7, toNat8, toNat9, toNat10, toNat11, toNat12, toNat13, toNat14, toNat15, toNat16, toNat17, toNat18, toNat19, iA, iOf, atS, rwA, castK, zK, true_and, and_true, decide_eq_true_eq, decide_eq_false_iff_not, beq_iff_eq, bne_iff_ne, beq_eq_false_iff_ne, bne_eq_false_iff_eq, Bool.not_eq_true', Bool.not_eq_false', Bool.not_eq_true, Bool.not_eq_false, Nat.succ_eq_add_one, Int.not_lt, Int.not_le, gt_iff_lt, ge_iff_le, show bytesS T_ipe_Thing_In 217 = 8 from rfl] at *
    all_goals have hR := right_iff.1 hvc
    all_goals obtain ⟨⟨a1, a2⟩, ⟨b1, b2⟩, ⟨c1, c2⟩, ⟨d1, d2⟩, ⟨e1, e2⟩, ⟨f1, f2⟩, ⟨g1, g2⟩, ⟨h1, h2⟩, ⟨i1, i2⟩, ⟨j1, j2⟩, ⟨k1, k2⟩, ⟨l1, l2⟩⟩ := hR
    all_goals try (refine Vc.mk ⟨by simp, ?_⟩; omega)
    all_goals try simp only [Bool.and_eq_true, Bool.and_eq_false_iff, decide_eq_true_eq, decide_eq_false_iff_not] at *
    all_goals (
      refine Res.mk ?_
      refine fields_done ?_ ?_
      · simp only [dE25, dE2, dE28, dE26, dE27, dE29, dE0, jnE]
        cases hb : p.blocked <;> cases ho : p.open_ <;> simp only [hb, ho, counted,  bne_iff_ne, beq_iff_eq, decide_eq_true_eq, Bool.and_eq_true, Bool.not_eq_true', Bool.not_false, Bool.not_true, Bool.false_eq_true, if_false, if_true, ne_eq, not_true_eq_false, not_false_eq_true]
        all_goals try rfl
        all_goals (repeat' split) <;> first | rfl | omega | (simp_all; done) | (simp_all; omega) | (trace_state; sorry)
      · unfold jnP
        split
        · (first | rfl | (simp only [Product.mk.injEq, true_and, and_true]; first | done | (refine ⟨?_, ?_⟩ <;> omega) | omega))
        · rfl)
  · exact h.fail.elim

def T_ipe_Thing_Out : TT := [(3, ⟨.int .i64, 1, 8, [.int .i64 0], some .int⟩),
  (4, ⟨.bool, 1, 1, [.bool false], some .bool⟩),
  (27, ⟨.int .i64, 1, 8, [.int .i64 0], some .int⟩),
  (56, ⟨.int .i64, 1, 8, [.int .i64 0], some .int⟩),
  (58, ⟨.strct [(0, 56), (1, 3), (2, 3), (3, 3), (4, 3), (5, 3), (6, 3), (7, 3), (8, 4), (9, 3), (10, 3), (11, 3), (12, 3), (13, 4)], 14, 112, [.int .i64 0, .int .i64 0, .int .i64 0, .int .i64 0, .int .i64 0, .int .i64 0, .int .i64 0, .int .i64 0, .bool false, .int .i64 0, .int .i64 0, .int .i64 0, .int .i64 0, .bool false], some .product⟩),
  (153, ⟨.strct [(0, 58)], 14, 112, [.int .i64 0, .int .i64 0, .int .i64 0, .int .i64 0, .int .i64 0, .int .i64 0, .int .i64 0, .int .i64 0, .bool false, .int .i64 0, .int .i64 0, .int .i64 0, .int .i64 0, .bool false], none⟩),
  (217, ⟨.slice 27, 1, 24, [.slice none 0 0], none⟩)]
theorem tOk_ipe_Thing_Out : TOk Try.prog T_ipe_Thing_Out := tOk_of (by kernel_rfl)
def sp_ipe_Thing_Out : Spec := fun args hp => match args, hp with
  | [.agg p_cs, .val (.int .i64 fare)], [] => (match decS .product p_cs with
    | some p => .vc (rightP p = true) (.tup [svProduct (jtP p fare), iv (jtE p fare)]) []
    | none => .fail "struct")
  | _, _ => .fail "ipe_Thing_Out"
abbrev k_ipe_Thing_Out : List (Option RK) := [none, none]
def a_ipe_Thing_Out : List SV → List (Nat × VB) → Anns := fun _ _ => []
set_option maxHeartbeats 20000000 in
theorem ok_ipe_Thing_Out : GOk Try.prog 79 (lift k_ipe_Thing_Out sp_ipe_Thing_Out) := by
  refine pf_ok (T := T_ipe_Thing_Out) (Γ := (121, lift k_ipe_unless sp_ipe_unless) :: (122, lift k_ipe_in sp_ipe_in) :: (123, lift k_ipe_Thing_done sp_ipe_Thing_done) :: []) tOk_ipe_Thing_Out (gOks_cons ok_ipe_unless (gOks_cons ok_ipe_in (gOks_cons ok_ipe_Thing_done (gOks_nil _)))) mixed Try.func79 (c := body Try.f79) (by kernel_rfl) (by kernel_rfl) k_ipe_Thing_Out sp_ipe_Thing_Out (by kernel_rfl) (by kernel_rfl) a_ipe_Thing_Out ?_
  intro args hp s u hfit h
  unfold sp_ipe_Thing_Out at h
  split at h
  · rename_i p_cs fare
    split at h
    case h_2 => exact h.fail.elim
    rename_i p h_p
    obtain rfl := decS_ok (k := .product) rfl h_p
    clear h_p
    change Product at p
    obtain ⟨hvc, rfl, rfl⟩ := h.vc
    clear h hfit
    conv => whnf
    repeat' (first
      | (refine And.intro ?_ ?_ <;> try conv => whnf)
      | (intro hh; first | (cases hh; done) | conv => whnf))
    all_goals try first | rfl | kernel_rfl
    all_goals try simp only [decide_eq_true_eq, decide_eq_false_iff_not] at *
    all_goals try simp only [Key_eta, Share_eta, Journey_eta, Batch_eta, FieldT_eta, OpB_eta, Product_eta, Item_eta, Delta_eta, Elem_eta, Rule_eta, Do10_eta, Key_beq, Share_beq, Journey_beq, FieldT_beq, Product_beq, Item_beq, Do10_beq, toNat0, toNat1, toNat2, toNat3, toNat4, toNat5, toNat6, toNat7, toNat8, toNat9, toNat10, toNat11, toNat12, toNat13, toNat14, toNat15, toNat16, toNat17, toNat18, toNat19, iA, iOf, atS, rwA, castK, zK, true_and, and_true, decide_eq_true_eq, decide_eq_false_iff_not, beq_iff_eq, bne_iff_ne, beq_eq_false_iff_ne, bne_eq_false_iff_eq, Bool.not_eq_true', Bool.not_eq_false', Bool.not_eq_true, Bool.not_eq_false, Nat.succ_eq_add_one, Int.not_lt, Int.not_le, gt_iff_lt, ge_iff_le, show bytesS T_ipe_Thing_Out 217 = 8 from rfl] at *
    all_goals have hR := right_iff.1 hvc
    all_goals obtain ⟨⟨a1, a2⟩, ⟨b1, b2⟩, ⟨c1, c2⟩, ⟨d1, d2⟩, ⟨e1, e2⟩, ⟨f1, f2⟩, ⟨g1, g2⟩, ⟨h1, h2⟩, ⟨i1, i2⟩, ⟨j1, j2⟩, ⟨k1, k2⟩, ⟨l1, l2⟩⟩ := hR
    all_goals try (refine Vc.mk ⟨by simp, ?_⟩; omega)
    all_goals try simp only [Bool.and_eq_true, Bool.and_eq_false_iff, decide_eq_true_eq, decide_eq_false_iff_not] at *
    all_goals (
      refine Res.mk ?_
      refine fields_done ?_ ?_
      · simp only [dE25, dE2, dE28, dE26, dE27, dE29, dE0, jtE]
        cases hb : p.blocked <;> cases ho : p.open_ <;> simp only [hb, ho, counted,  bne_iff_ne, beq_iff_eq, decide_eq_true_eq, Bool.and_eq_true, Bool.not_eq_true', Bool.not_false, Bool.not_true, Bool.false_eq_true, if_false, if_true, ne_eq, not_true_eq_false, not_false_eq_true]
        all_goals try rfl
        all_goals (repeat' split) <;> first | rfl | omega | (simp_all; done) | (simp_all; omega) | (trace_state; sorry)
      · unfold jtP
        split
        · (first | rfl | (simp only [Product.mk.injEq, true_and, and_true]; first | done | (refine ⟨?_, ?_⟩ <;> (have h0 := jtE_0 ‹_›; simp only [cond_true, cond_false]; rw [if_neg (by omega), wrap64 (n := p.value - fare) (by omega) (by omega)])) | (have h0 := jtE_0 ‹_›; simp only [cond_true, cond_false]; rw [if_neg (by omega), wrap64 (n := p.value - fare) (by omega) (by omega)])))
        · rfl)
  · exact h.fail.elim

end Go.Proofs.Ythbmllekbbfobaa.Sx
