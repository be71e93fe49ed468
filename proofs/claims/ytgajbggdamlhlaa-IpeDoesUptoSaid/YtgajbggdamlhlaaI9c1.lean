import Derived.Test.YtgajbggdamlhlaaProg
import Derived.Test.YtgajbggdamlhlaaSxU
import Derived.IntWalk
import Derived.Test.YtgajbggdamlhlaaI9c0
/-! ipe, what may be done -/
namespace Go.Proofs.Ytgajbggdamlhlaa.Sx
open Go
set_option linter.unusedVariables false
set_option linter.unusedSimpArgs false
set_option maxRecDepth 100000

def T_ipe_Thing_In : TT := [(3, ⟨.int .i64, 1, 8, [.int .i64 0], some .int⟩),
  (4, ⟨.bool, 1, 1, [.bool false], some .bool⟩),
  (24, ⟨.int .i64, 1, 8, [.int .i64 0], some .int⟩),
  (39, ⟨.int .i64, 1, 8, [.int .i64 0], some .int⟩),
  (41, ⟨.strct [(0, 39), (1, 3), (2, 3), (3, 3), (4, 3), (5, 3), (6, 3), (7, 3), (8, 4), (9, 3), (10, 3), (11, 3), (12, 3), (13, 4)], 14, 112, [.int .i64 0, .int .i64 0, .int .i64 0, .int .i64 0, .int .i64 0, .int .i64 0, .int .i64 0, .int .i64 0, .bool false, .int .i64 0, .int .i64 0, .int .i64 0, .int .i64 0, .bool false], some .product⟩),
  (49, ⟨.strct [(0, 41)], 14, 112, [.int .i64 0, .int .i64 0, .int .i64 0, .int .i64 0, .int .i64 0, .int .i64 0, .int .i64 0, .int .i64 0, .bool false, .int .i64 0, .int .i64 0, .int .i64 0, .int .i64 0, .bool false], none⟩),
  (111, ⟨.slice 24, 1, 24, [.slice none 0 0], none⟩)]
theorem tOk_ipe_Thing_In : TOk Try.prog T_ipe_Thing_In := tOk_of (by kernel_rfl)
def sp_ipe_Thing_In : Spec := fun args hp => match args, hp with
  | [.agg p_cs, .val (.int .i64 zone), .val (.int .i64 day)], [] => (match decS .product p_cs with
    | some p => .vc (rightP p = true) (.tup [svProduct (jnP p zone day), iv (jnE p zone day)]) []
    | none => .fail "struct")
  | _, _ => .fail "ipe_Thing_In"
abbrev k_ipe_Thing_In : List (Option RK) := [none, none, none]
def a_ipe_Thing_In : List SV → List (Nat × VB) → Anns := fun _ _ => []
set_option maxHeartbeats 20000000 in
theorem ok_ipe_Thing_In : GOk Try.prog 24 (lift k_ipe_Thing_In sp_ipe_Thing_In) := by
  refine pf_ok (T := T_ipe_Thing_In) (Γ := (56, lift k_ipe_unless sp_ipe_unless) :: (57, lift k_ipe_in sp_ipe_in) :: (58, lift k_ipe_Thing_done sp_ipe_Thing_done) :: []) tOk_ipe_Thing_In (gOks_cons ok_ipe_unless (gOks_cons ok_ipe_in (gOks_cons ok_ipe_Thing_done (gOks_nil _)))) mixed Try.func24 (c := body Try.f24) (by kernel_rfl) (by kernel_rfl) k_ipe_Thing_In sp_ipe_Thing_In (by kernel_rfl) (by kernel_rfl) a_ipe_Thing_In ?_
  intro args hp s u hfit h
  unfold sp_ipe_Thing_In at h
  split at h
  · rename_i p_cs zone day
    split at h
    case h_2 => exact h.fail.elim
    rename_i p h_p
    obtain rfl := decS_ok (k := .product) rfl h_p
    clear h_p
    change Product at p
    obtain ⟨hvc, rfl, rfl⟩ := h.vc
    clear h hfit
    conv => whnf
    repeat' (first
      | (refine And.intro ?_ ?_ <;> try conv => whnf)
      | (intro hh; first | (cases hh; done) | conv => whnf))
    all_goals try first | rfl | kernel_rfl
    all_goals try simp only [decide_eq_true_eq, decide_eq_false_iff_not] at *
    all_goals try simp only [Key_eta, Share_eta, Journey_eta, Batch_eta, FieldT_eta, OpB_eta, Product_eta, Item_eta, Delta_eta, Elem_eta, Rule_eta, Do10_eta, Key_beq, Share_beq, Journey_beq, FieldT_beq, Product_beq, Item_beq, Do10_beq, toNat0, toNat1, toNat2, toNat3, toNat4, toNat5, toNat6, toNat7, toNat8, toNat9, toNat10, toNat11, toNat12, toNat13, toNat14, toNat15, toNat16, toNat17, toNat18, toNat19, iA, iOf, atS, rwA, castK, zK, true_and, and_true, decide_eq_true_eq, decide_eq_false_iff_not, beq_iff_eq, bne_iff_ne, beq_eq_false_iff_ne, bne_eq_false_iff_eq, Bool.not_eq_true', Bool.not_eq_false', Bool.not_eq_true, Bool.not_eq_false, Nat.succ_eq_add_one, Int.not_lt, Int.not_le, gt_iff_lt, ge_iff_le, show bytesS T_ipe_Thing_In 111 = 8 from rfl] at *
    all_goals have hR := right_iff.1 hvc
    all_goals obtain ⟨⟨a1, a2⟩, ⟨b1, b2⟩, ⟨c1, c2⟩, ⟨d1, d2⟩, ⟨e1, e2⟩, ⟨f1, f2⟩, ⟨g1, g2⟩, ⟨h1, h2⟩, ⟨i1, i2⟩, ⟨j1, j2⟩, ⟨k1, k2⟩, ⟨l1, l2⟩⟩ := hR
    all_goals try (refine Vc.mk ⟨by simp, ?_⟩; omega)
    all_goals try simp only [Bool.and_eq_true, Bool.and_eq_false_iff, decide_eq_true_eq, decide_eq_false_iff_not] at *
    all_goals (
      refine Res.mk ?_
      refine fields_done ?_ ?_
      · simp only [dE25, dE2, dE28, dE26, dE27, dE29, dE0, jnE]
        cases hb : p.blocked <;> cases ho : p.open_ <;> simp only [hb, ho, counted,  bne_iff_ne, beq_iff_eq, decide_eq_true_eq, Bool.and_eq_true, Bool.not_eq_true', Bool.not_false, Bool.not_true, Bool.false_eq_true, if_false, if_true, ne_eq, not_true_eq_false, not_false_eq_true]
        all_goals try rfl
        all_goals (repeat' split) <;> first | rfl | omega | (simp_all; done) | (simp_all; omega) | (trace_state; sorry)
      · unfold jnP
        split
        · (first | rfl | (simp only [Product.mk.injEq, true_and, and_true]; first | done | (refine ⟨?_, ?_⟩ <;> omega) | omega))
        · rfl)
  · exact h.fail.elim

def T_ipe_Thing_Out : TT := [(3, ⟨.int .i64, 1, 8, [.int .i64 0], some .int⟩),
  (4, ⟨.bool, 1, 1, [.bool false], some .bool⟩),
  (24, ⟨.int .i64, 1, 8, [.int .i64 0], some .int⟩),
  (39, ⟨.int .i64, 1, 8, [.int .i64 0], some .int⟩),
  (41, ⟨.strct [(0, 39), (1, 3), (2, 3), (3, 3), (4, 3), (5, 3), (6, 3), (7, 3), (8, 4), (9, 3), (10, 3), (11, 3), (12, 3), (13, 4)], 14, 112, [.int .i64 0, .int .i64 0, .int .i64 0, .int .i64 0, .int .i64 0, .int .i64 0, .int .i64 0, .int .i64 0, .bool false, .int .i64 0, .int .i64 0, .int .i64 0, .int .i64 0, .bool false], some .product⟩),
  (49, ⟨.strct [(0, 41)], 14, 112, [.int .i64 0, .int .i64 0, .int .i64 0, .int .i64 0, .int .i64 0, .int .i64 0, .int .i64 0, .int .i64 0, .bool false, .int .i64 0, .int .i64 0, .int .i64 0, .int .i64 0, .bool false], none⟩),
  (111, ⟨.slice 24, 1, 24, [.slice none 0 0], none⟩)]
theorem tOk_ipe_Thing_Out : TOk Try.prog T_ipe_Thing_Out := tOk_of (by kernel_rfl)
def sp_ipe_Thing_Out : Spec := fun args hp => match args, hp with
  | [.agg p_cs, .val (.int .i64 fare)], [] => (match decS .product p_cs with
    | some p => .vc (rightP p = true) (.tup [svProduct (jtP p fare), iv (jtE p fare)]) []
    | none => .fail "struct")
  | _, _ => .fail "ipe_Thing_Out"
abbrev k_ipe_Thing_Out : List (Option RK) := [none, none]
def a_ipe_Thing_Out : List SV → List (Nat × VB) → Anns := fun _ _ => []
set_option maxHeartbeats 20000000 in
theorem ok_ipe_Thing_Out : GOk Try.prog 25 (lift k_ipe_Thing_Out sp_ipe_Thing_Out) := by
  refine pf_ok (T := T_ipe_Thing_Out) (Γ := (56, lift k_ipe_unless sp_ipe_unless) :: (57, lift k_ipe_in sp_ipe_in) :: (58, lift k_ipe_Thing_done sp_ipe_Thing_done) :: []) tOk_ipe_Thing_Out (gOks_cons ok_ipe_unless (gOks_cons ok_ipe_in (gOks_cons ok_ipe_Thing_done (gOks_nil _)))) mixed Try.func25 (c := body Try.f25) (by kernel_rfl) (by kernel_rfl) k_ipe_Thing_Out sp_ipe_Thing_Out (by kernel_rfl) (by kernel_rfl) a_ipe_Thing_Out ?_
  intro args hp s u hfit h
  unfold sp_ipe_Thing_Out at h
  split at h
  · rename_i p_cs fare
    split at h
    case h_2 => exact h.fail.elim
    rename_i p h_p
    obtain rfl := decS_ok (k := .product) rfl h_p
    clear h_p
    change Product at p
    obtain ⟨hvc, rfl, rfl⟩ := h.vc
    clear h hfit
    conv => whnf
    repeat' (first
      | (refine And.intro ?_ ?_ <;> try conv => whnf)
      | (intro hh; first | (cases hh; done) | conv => whnf))
    all_goals try first | rfl | kernel_rfl
    all_goals try simp only [decide_eq_true_eq, decide_eq_false_iff_not] at *
    all_goals try simp only [Key_eta, Share_eta, Journey_eta, Batch_eta, FieldT_eta, OpB_eta, Product_eta, Item_eta, Delta_eta, Elem_eta, Rule_eta, Do10_eta, Key_beq, Share_beq, Journey_beq, FieldT_beq, Product_beq, Item_beq, Do10_beq, toNat0, toNat1, toNat2, toNat3, toNat4, toNat5, toNat6, toNat7, toNat8, toNat9, toNat10, toNat11, toNat12, toNat13, toNat14, toNat15, toNat16, toNat17, toNat18, toNat19, iA, iOf, atS, rwA, castK, zK, true_and, and_true, decide_eq_true_eq, decide_eq_false_iff_not, beq_iff_eq, bne_iff_ne, beq_eq_false_iff_ne, bne_eq_false_iff_eq, Bool.not_eq_true', Bool.not_eq_false', Bool.not_eq_true, Bool.not_eq_false, Nat.succ_eq_add_one, Int.not_lt, Int.not_le, gt_iff_lt, ge_iff_le, show bytesS T_ipe_Thing_Out 111 = 8 from rfl] at *
    all_goals have hR := right_iff.1 hvc
    all_goals obtain ⟨⟨a1, a2⟩, ⟨b1, b2⟩, ⟨c1, c2⟩, ⟨d1, d2⟩, ⟨e1, e2⟩, ⟨f1, f2⟩, ⟨g1, g2⟩, ⟨h1, h2⟩, ⟨i1, i2⟩, ⟨j1, j2⟩, ⟨k1, k2⟩, ⟨l1, l2⟩⟩ := hR
    all_goals try (refine Vc.mk ⟨by simp, ?_⟩; omega)
    all_goals try simp only [Bool.and_eq_true, Bool.and_eq_false_iff, decide_eq_true_eq, decide_eq_false_iff_not] at *
    all_goals (
      refine Res.mk ?_
      refine fields_done ?_ ?_
      · simp only [dE25, dE2, dE28, dE26, dE27, dE29, dE0, jtE]
        cases hb : p.blocked <;> cases ho : p.open_ <;> simp only [hb, ho, counted,  bne_iff_ne, beq_iff_eq, decide_eq_true_eq, Bool.and_eq_true, Bool.not_eq_true', Bool.not_false, Bool.not_true, Bool.false_eq_true, if_false, if_true, ne_eq, not_true_eq_false, not_false_eq_true]
        all_goals try rfl
        all_goals (repeat' split) <;> first | rfl | omega | (simp_all; done) | (simp_all; omega) | (trace_state; sorry)
      · unfold jtP
        split
        · (first | rfl | (simp only [Product.mk.injEq, true_and, and_true]; first | done | (refine ⟨?_, ?_⟩ <;> (have h0 := jtE_0 ‹_›; simp only [cond_true, cond_false]; rw [if_neg (by omega), wrap64 (n := p.value - fare) (by omega) (by omega)])) | (have h0 := jtE_0 ‹_›; simp only [cond_true, cond_false]; rw [if_neg (by omega), wrap64 (n := p.value - fare) (by omega) (by omega)])))
        · rfl)
  · exact h.fail.elim

def T_ipe_Thing_Add : TT := [(3, ⟨.int .i64, 1, 8, [.int .i64 0], some .int⟩),
  (4, ⟨.bool, 1, 1, [.bool false], some .bool⟩),
  (24, ⟨.int .i64, 1, 8, [.int .i64 0], some .int⟩),
  (39, ⟨.int .i64, 1, 8, [.int .i64 0], some .int⟩),
  (41, ⟨.strct [(0, 39), (1, 3), (2, 3), (3, 3), (4, 3), (5, 3), (6, 3), (7, 3), (8, 4), (9, 3), (10, 3), (11, 3), (12, 3), (13, 4)], 14, 112, [.int .i64 0, .int .i64 0, .int .i64 0, .int .i64 0, .int .i64 0, .int .i64 0, .int .i64 0, .int .i64 0, .bool false, .int .i64 0, .int .i64 0, .int .i64 0, .int .i64 0, .bool false], some .product⟩),
  (49, ⟨.strct [(0, 41)], 14, 112, [.int .i64 0, .int .i64 0, .int .i64 0, .int .i64 0, .int .i64 0, .int .i64 0, .int .i64 0, .int .i64 0, .bool false, .int .i64 0, .int .i64 0, .int .i64 0, .int .i64 0, .bool false], none⟩),
  (111, ⟨.slice 24, 1, 24, [.slice none 0 0], none⟩)]
theorem tOk_ipe_Thing_Add : TOk Try.prog T_ipe_Thing_Add := tOk_of (by kernel_rfl)
def sp_ipe_Thing_Add : Spec := fun args hp => match args, hp with
  | [.agg p_cs, .val (.int .i64 am)], [] => (match decS .product p_cs with
    | some p => .vc (rightP p = true) (.tup [svProduct (adP p am), iv (adE p am)]) []
    | none => .fail "struct")
  | _, _ => .fail "ipe_Thing_Add"
abbrev k_ipe_Thing_Add : List (Option RK) := [none, none]
def a_ipe_Thing_Add : List SV → List (Nat × VB) → Anns := fun _ _ => []
set_option maxHeartbeats 20000000 in
theorem ok_ipe_Thing_Add : GOk Try.prog 26 (lift k_ipe_Thing_Add sp_ipe_Thing_Add) := by
  refine pf_ok (T := T_ipe_Thing_Add) (Γ := (56, lift k_ipe_unless sp_ipe_unless) :: (57, lift k_ipe_in sp_ipe_in) :: (58, lift k_ipe_Thing_done sp_ipe_Thing_done) :: []) tOk_ipe_Thing_Add (gOks_cons ok_ipe_unless (gOks_cons ok_ipe_in (gOks_cons ok_ipe_Thing_done (gOks_nil _)))) mixed Try.func26 (c := body Try.f26) (by kernel_rfl) (by kernel_rfl) k_ipe_Thing_Add sp_ipe_Thing_Add (by kernel_rfl) (by kernel_rfl) a_ipe_Thing_Add ?_
  intro args hp s u hfit h
  unfold sp_ipe_Thing_Add at h
  split at h
  · rename_i p_cs am
    split at h
    case h_2 => exact h.fail.elim
    rename_i p h_p
    obtain rfl := decS_ok (k := .product) rfl h_p
    clear h_p
    change Product at p
    obtain ⟨hvc, rfl, rfl⟩ := h.vc
    clear h hfit
    conv => whnf
    repeat' (first
      | (refine And.intro ?_ ?_ <;> try conv => whnf)
      | (intro hh; first | (cases hh; done) | conv => whnf))
    all_goals try first | rfl | kernel_rfl
    all_goals try simp only [decide_eq_true_eq, decide_eq_false_iff_not] at *
    all_goals try simp only [Key_eta, Share_eta, Journey_eta, Batch_eta, FieldT_eta, OpB_eta, Product_eta, Item_eta, Delta_eta, Elem_eta, Rule_eta, Do10_eta, Key_beq, Share_beq, Journey_beq, FieldT_beq, Product_beq, Item_beq, Do10_beq, toNat0, toNat1, toNat2, toNat3, toNat4, toNat5, toNat6, toNat7, toNat8, toNat9, toNat10, toNat11, toNat12, toNat13, toNat14, toNat15, toNat16, toNat17, toNat18, toNat19, iA, iOf, atS, rwA, castK, zK, true_and, and_true, decide_eq_true_eq, decide_eq_false_iff_not, beq_iff_eq, bne_iff_ne, beq_eq_false_iff_ne, bne_eq_false_iff_eq, Bool.not_eq_true', Bool.not_eq_false', Bool.not_eq_true, Bool.not_eq_false, Nat.succ_eq_add_one, Int.not_lt, Int.not_le, gt_iff_lt, ge_iff_le, show bytesS T_ipe_Thing_Add 111 = 8 from rfl] at *
    all_goals have hR := right_iff.1 hvc
    all_goals obtain ⟨⟨a1, a2⟩, ⟨b1, b2⟩, ⟨c1, c2⟩, ⟨d1, d2⟩, ⟨e1, e2⟩, ⟨f1, f2⟩, ⟨g1, g2⟩, ⟨h1, h2⟩, ⟨i1, i2⟩, ⟨j1, j2⟩, ⟨k1, k2⟩, ⟨l1, l2⟩⟩ := hR
    all_goals try (refine Vc.mk ⟨by simp, ?_⟩; omega)
    all_goals try simp only [Bool.and_eq_true, Bool.and_eq_false_iff, decide_eq_true_eq, decide_eq_false_iff_not] at *
    all_goals (
      refine Res.mk ?_
      refine fields_done ?_ ?_
      · simp only [dE25, dE2, dE28, dE26, dE27, dE29, dE0, adE]
        cases hb : p.blocked <;> cases ho : p.open_ <;> simp only [hb, ho, counted, wrap64 (n := 2147483648 - p.value) (by omega) (by omega),  bne_iff_ne, beq_iff_eq, decide_eq_true_eq, Bool.and_eq_true, Bool.not_eq_true', Bool.not_false, Bool.not_true, Bool.false_eq_true, if_false, if_true, ne_eq, not_true_eq_false, not_false_eq_true]
        all_goals try rfl
        all_goals (repeat' split) <;> first | rfl | omega | (simp_all; done) | (simp_all; omega) | (trace_state; sorry)
      · unfold adP
        split
        · (first | rfl | (simp only [Product.mk.injEq, true_and, and_true]; first | done | (refine ⟨?_, ?_⟩ <;> (have h0 := adE_0 ‹_›; simp only [cond_true, cond_false]; rw [if_neg (show ¬ am < 0 by omega), if_neg (show ¬ 2147483648 < am by omega), wrap64 (n := p.value + am) (by omega) (by omega)])) | (have h0 := adE_0 ‹_›; simp only [cond_true, cond_false]; rw [if_neg (show ¬ am < 0 by omega), if_neg (show ¬ 2147483648 < am by omega), wrap64 (n := p.value + am) (by omega) (by omega)])))
        · rfl)
  · exact h.fail.elim

def T_ipe_Thing_Block : TT := [(3, ⟨.int .i64, 1, 8, [.int .i64 0], some .int⟩),
  (4, ⟨.bool, 1, 1, [.bool false], some .bool⟩),
  (39, ⟨.int .i64, 1, 8, [.int .i64 0], some .int⟩),
  (41, ⟨.strct [(0, 39), (1, 3), (2, 3), (3, 3), (4, 3), (5, 3), (6, 3), (7, 3), (8, 4), (9, 3), (10, 3), (11, 3), (12, 3), (13, 4)], 14, 112, [.int .i64 0, .int .i64 0, .int .i64 0, .int .i64 0, .int .i64 0, .int .i64 0, .int .i64 0, .int .i64 0, .bool false, .int .i64 0, .int .i64 0, .int .i64 0, .int .i64 0, .bool false], some .product⟩),
  (49, ⟨.strct [(0, 41)], 14, 112, [.int .i64 0, .int .i64 0, .int .i64 0, .int .i64 0, .int .i64 0, .int .i64 0, .int .i64 0, .int .i64 0, .bool false, .int .i64 0, .int .i64 0, .int .i64 0, .int .i64 0, .bool false], none⟩)]
theorem tOk_ipe_Thing_Block : TOk Try.prog T_ipe_Thing_Block := tOk_of (by kernel_rfl)
def sp_ipe_Thing_Block : Spec := fun args hp => match args, hp with
  | [.agg p_cs], [] => (match decS .product p_cs with
    | some p => .ok (svProduct { p with blocked := true }) []
    | none => .fail "struct")
  | _, _ => .fail "ipe_Thing_Block"
abbrev k_ipe_Thing_Block : List (Option RK) := [none]
def a_ipe_Thing_Block : List SV → List (Nat × VB) → Anns := fun _ _ => []
set_option maxHeartbeats 20000000 in
theorem ok_ipe_Thing_Block : GOk Try.prog 27 (lift k_ipe_Thing_Block sp_ipe_Thing_Block) := by
  refine pf_ok (T := T_ipe_Thing_Block) (Γ := []) tOk_ipe_Thing_Block (gOks_nil _) mixed Try.func27 (c := body Try.f27) (by kernel_rfl) (by kernel_rfl) k_ipe_Thing_Block sp_ipe_Thing_Block (by kernel_rfl) (by kernel_rfl) a_ipe_Thing_Block ?_
  intro args hp s u hfit h
  unfold sp_ipe_Thing_Block at h
  split at h
  · rename_i p_cs
    split at h
    case h_2 => exact h.fail.elim
    rename_i p h_p
    obtain rfl := decS_ok (k := .product) rfl h_p
    clear h_p
    change Product at p
    obtain ⟨rfl, rfl⟩ := h.ok
    clear h hfit
    conv => whnf
    repeat' (first
      | (refine And.intro ?_ ?_ <;> try conv => whnf)
      | (intro hh; first | (cases hh; done) | conv => whnf))
    all_goals try first | rfl | kernel_rfl
    all_goals try simp only [decide_eq_true_eq, decide_eq_false_iff_not] at *
    all_goals try simp only [Key_eta, Share_eta, Journey_eta, Batch_eta, FieldT_eta, OpB_eta, Product_eta, Item_eta, Delta_eta, Elem_eta, Rule_eta, Do10_eta, Key_beq, Share_beq, Journey_beq, FieldT_beq, Product_beq, Item_beq, Do10_beq, toNat0, toNat1, toNat2, toNat3, toNat4, toNat5, toNat6, toNat7, toNat8, toNat9, toNat10, toNat11, toNat12, toNat13, toNat14, toNat15, toNat16, toNat17, toNat18, toNat19, iA, iOf, atS, rwA, castK, zK, true_and, and_true, decide_eq_true_eq, decide_eq_false_iff_not, beq_iff_eq, bne_iff_ne, beq_eq_false_iff_ne, bne_eq_false_iff_eq, Bool.not_eq_true', Bool.not_eq_false', Bool.not_eq_true, Bool.not_eq_false, Nat.succ_eq_add_one, Int.not_lt, Int.not_le, gt_iff_lt, ge_iff_le] at *
    all_goals exact Res.mk trivial
  · exact h.fail.elim

def T_fareboxref10_ride : TT := [(3, ⟨.int .i64, 1, 8, [.int .i64 0], some .int⟩),
  (4, ⟨.bool, 1, 1, [.bool false], some .bool⟩),
  (39, ⟨.int .i64, 1, 8, [.int .i64 0], some .int⟩),
  (41, ⟨.strct [(0, 39), (1, 3), (2, 3), (3, 3), (4, 3), (5, 3), (6, 3), (7, 3), (8, 4), (9, 3), (10, 3), (11, 3), (12, 3), (13, 4)], 14, 112, [.int .i64 0, .int .i64 0, .int .i64 0, .int .i64 0, .int .i64 0, .int .i64 0, .int .i64 0, .int .i64 0, .bool false, .int .i64 0, .int .i64 0, .int .i64 0, .int .i64 0, .bool false], some .product⟩)]
theorem tOk_fareboxref10_ride : TOk Try.prog T_fareboxref10_ride := tOk_of (by kernel_rfl)
def sp_fareboxref10_ride : Spec := fun args hp => match args, hp with
  | [.agg p_cs, .val (.int .i64 day)], [] => (match decS .product p_cs with
    | some p => .vc (rightP p = true) (iv (rdR p day)) []
    | none => .fail "struct")
  | _, _ => .fail "fareboxref10_ride"
abbrev k_fareboxref10_ride : List (Option RK) := [none, none]
def a_fareboxref10_ride : List SV → List (Nat × VB) → Anns := fun _ _ => []
set_option maxHeartbeats 20000000 in
theorem ok_fareboxref10_ride : GOk Try.prog 59 (lift k_fareboxref10_ride sp_fareboxref10_ride) := by
  refine pf_ok (T := T_fareboxref10_ride) (Γ := []) tOk_fareboxref10_ride (gOks_nil _) mixed Try.func59 (c := body Try.f59) (by kernel_rfl) (by kernel_rfl) k_fareboxref10_ride sp_fareboxref10_ride (by kernel_rfl) (by kernel_rfl) a_fareboxref10_ride ?_
  intro args hp s u hfit h
  unfold sp_fareboxref10_ride at h
  split at h
  · rename_i p_cs day
    split at h
    case h_2 => exact h.fail.elim
    rename_i p h_p
    obtain rfl := decS_ok (k := .product) rfl h_p
    clear h_p
    change Product at p
    obtain ⟨hvc, rfl, rfl⟩ := h.vc
    clear h hfit
    conv => whnf
    repeat' (first
      | (refine And.intro ?_ ?_ <;> try conv => whnf)
      | (intro hh; first | (cases hh; done) | conv => whnf))
    all_goals try first | rfl | kernel_rfl
    all_goals try simp only [decide_eq_true_eq, decide_eq_false_iff_not] at *
    all_goals try simp only [Key_eta, Share_eta, Journey_eta, Batch_eta, FieldT_eta, OpB_eta, Product_eta, Item_eta, Delta_eta, Elem_eta, Rule_eta, Do10_eta, Key_beq, Share_beq, Journey_beq, FieldT_beq, Product_beq, Item_beq, Do10_beq, toNat0, toNat1, toNat2, toNat3, toNat4, toNat5, toNat6, toNat7, toNat8, toNat9, toNat10, toNat11, toNat12, toNat13, toNat14, toNat15, toNat16, toNat17, toNat18, toNat19, iA, iOf, atS, rwA, castK, zK, true_and, and_true, decide_eq_true_eq, decide_eq_false_iff_not, beq_iff_eq, bne_iff_ne, beq_eq_false_iff_ne, bne_eq_false_iff_eq, Bool.not_eq_true', Bool.not_eq_false', Bool.not_eq_true, Bool.not_eq_false, Nat.succ_eq_add_one, Int.not_lt, Int.not_le, gt_iff_lt, ge_iff_le] at *
    all_goals have hR := right_iff.1 hvc
    all_goals obtain ⟨⟨a1, a2⟩, ⟨b1, b2⟩, ⟨c1, c2⟩, ⟨d1, d2⟩, ⟨e1, e2⟩, ⟨f1, f2⟩, ⟨g1, g2⟩, ⟨h1, h2⟩, ⟨i1, i2⟩, ⟨j1, j2⟩, ⟨k1, k2⟩, ⟨l1, l2⟩⟩ := hR
    all_goals (
      refine Res.mk ?_
      unfold rdR counted
      (repeat' split) <;> first | rfl | omega)
  · exact h.fail.elim

end Go.Proofs.Ytgajbggdamlhlaa.Sx
