import Derived.Test.YtgajbggdamlhlaaProg
import Derived.Test.YtgajbggdamlhlaaSxU
import Derived.IntWalk
import Derived.Test.YtgajbggdamlhlaaI9r
/-! ipe, what may be done -/
namespace Go.Proofs.Ytgajbggdamlhlaa.Sx
open Go
set_option linter.unusedVariables false
set_option linter.unusedSimpArgs false
set_option maxRecDepth 100000

def T_ipe_Thing_done : TT := [(3, ⟨.int .i64, 1, 8, [.int .i64 0], some .int⟩),
  (4, ⟨.bool, 1, 1, [.bool false], some .bool⟩),
  (24, ⟨.int .i64, 1, 8, [.int .i64 0], some .int⟩),
  (39, ⟨.int .i64, 1, 8, [.int .i64 0], some .int⟩),
  (41, ⟨.strct [(0, 39), (1, 3), (2, 3), (3, 3), (4, 3), (5, 3), (6, 3), (7, 3), (8, 4), (9, 3), (10, 3), (11, 3), (12, 3), (13, 4)], 14, 112, [.int .i64 0, .int .i64 0, .int .i64 0, .int .i64 0, .int .i64 0, .int .i64 0, .int .i64 0, .int .i64 0, .bool false, .int .i64 0, .int .i64 0, .int .i64 0, .int .i64 0, .bool false], some .product⟩),
  (49, ⟨.strct [(0, 41)], 14, 112, [.int .i64 0, .int .i64 0, .int .i64 0, .int .i64 0, .int .i64 0, .int .i64 0, .int .i64 0, .int .i64 0, .bool false, .int .i64 0, .int .i64 0, .int .i64 0, .int .i64 0, .bool false], none⟩),
  (111, ⟨.slice 24, 1, 24, [.slice none 0 0], none⟩)]
theorem tOk_ipe_Thing_done : TOk Try.prog T_ipe_Thing_done := tOk_of (by kernel_rfl)
def sp_ipe_Thing_done : Spec := fun args hp => match args, hp with
  | [.agg p_cs, .slF 0], [(0, .row o_es .int es)] => (match decS .product p_cs with
    | some p => .vc (es.length ≤ 1048576 ∧ 0 ≤ p.txn ∧ p.txn ≤ 65535) (.tup [svProduct (doneP p es), iv (doneE p es)]) []
    | none => .fail "struct")
  | _, _ => .fail "ipe_Thing_done"
abbrev k_ipe_Thing_done : List (Option RK) := [none, some .int]
def a_ipe_Thing_done : List SV → List (Nat × VB) → Anns := fun args hp => match args, hp with
  | [.agg p_cs, .slF 0], [(0, .row o_es .int es)] => (match decS .product p_cs with
    | some p => [(2, fun S => .inv [] [] [] fun ids vs rs => { cars := [.i 10 .i64], inv := fun ((i, _) : Int × Unit) => IDn es i, mu := fun ((i, _) : Int × Unit) => es.length - i.toNat })]
    | none => [])
  | _, _ => []
set_option maxHeartbeats 20000000 in
theorem ok_ipe_Thing_done : GOk Try.prog 58 (lift k_ipe_Thing_done sp_ipe_Thing_done) := by
  refine pf_ok (T := T_ipe_Thing_done) (Γ := []) tOk_ipe_Thing_done (gOks_nil _) mixed Try.func58 (c := body Try.f58) (by kernel_rfl) (by kernel_rfl) k_ipe_Thing_done sp_ipe_Thing_done (by kernel_rfl) (by kernel_rfl) a_ipe_Thing_done ?_
  intro args hp s u hfit h
  unfold sp_ipe_Thing_done at h
  split at h
  · rename_i p_cs o_es es
    split at h
    case h_2 => exact h.fail.elim
    rename_i p h_p
    obtain rfl := decS_ok (k := .product) rfl h_p
    clear h_p
    change Product at p
    obtain ⟨hvc, rfl, rfl⟩ := h.vc
    clear h hfit
    change List Int at es
    conv => whnf
    repeat' (first
      | (refine And.intro ?_ ?_ <;> try conv => whnf)
      | (intro hh; first | (cases hh; done) | conv => whnf))
    all_goals try first | rfl | kernel_rfl
    all_goals try simp only [decide_eq_true_eq, decide_eq_false_iff_not] at *
    all_goals try simp only [Key_eta, Share_eta, Journey_eta, Batch_eta, FieldT_eta, OpB_eta, Product_eta, Item_eta, Delta_eta, Elem_eta, Rule_eta, Do10_eta, Key_beq, Share_beq, Journey_beq, FieldT_beq, Product_beq, Item_beq, Do10_beq, toNat0, toNat1, toNat2, toNat3, toNat4, toNat5, toNat6, toNat7, toNat8, toNat9, toNat10, toNat11, toNat12, toNat13, toNat14, toNat15, toNat16, toNat17, toNat18, toNat19, iA, iOf, atS, rwA, castK, zK, true_and, and_true, decide_eq_true_eq, decide_eq_false_iff_not, beq_iff_eq, bne_iff_ne, beq_eq_false_iff_ne, bne_eq_false_iff_eq, Bool.not_eq_true', Bool.not_eq_false', Bool.not_eq_true, Bool.not_eq_false, Nat.succ_eq_add_one, Int.not_lt, Int.not_le, gt_iff_lt, ge_iff_le, show bytesS T_ipe_Thing_done 111 = 8 from rfl] at *
    all_goals obtain ⟨hL, hT⟩ := hvc
    all_goals try (
      have hex := ‹IDn _ _›
      obtain ⟨j, hj, rfl, hf⟩ := hex
      try simp only [Int.toNat_natCast] at *)
    all_goals try (refine Vc.mk ?_; omega)
    all_goals try (exact ⟨⟨0, Nat.zero_le _, rfl, rfl⟩⟩)
    all_goals try (
      have hlt : j < es.length := by omega
      rw [firstE_drop es j hlt] at hf
      have hz : es.getD j 0 ≠ 0 := ‹_›
      rw [if_neg hz] at hf
      have hE : doneE p es = es.getD j 0 := by rw [doneE, ← hf, if_pos hz]
      obtain ⟨e1, e2⟩ := done_ne hE hz
      rw [← e1, ← e2]
      exact Res.mk ⟨rfl, rfl, rfl, rfl, rfl, rfl, rfl, rfl, rfl, rfl, rfl, rfl, rfl, rfl, rfl⟩)
    all_goals try (
      have hlt : j < es.length := by omega
      rw [firstE_drop es j hlt] at hf
      have hz : es.getD j 0 = 0 := ‹_›
      rw [if_pos hz] at hf
      exact ⟨⟨j + 1, by omega, by rw [wrap64] <;> omega, hf⟩, by rw [wrap64] <;> omega⟩)
    all_goals have hf0 : firstE es = 0 := by rw [← hf, List.drop_of_length_le (by omega)]; rfl
    all_goals try (
      have hx : p.txn = 65535 := ‹_›
      have hE : doneE p es = 29 := by rw [doneE, hf0, if_neg (by decide), if_pos hx]
      obtain ⟨e1, e2⟩ := done_ne hE (by decide)
      rw [← e1, ← e2]
      exact Res.mk ⟨rfl, rfl, rfl, rfl, rfl, rfl, rfl, rfl, rfl, rfl, rfl, rfl, rfl, rfl, rfl⟩)
    all_goals (
      have hE : doneE p es = 0 := by rw [doneE, hf0, if_neg (by decide), if_neg (by assumption)]
      rw [doneP_eq hE, hE, if_pos rfl, wrap64 (by omega) (by omega)]
      exact Res.mk ⟨rfl, rfl, rfl, rfl, rfl, rfl, rfl, rfl, rfl, rfl, rfl, rfl, rfl, rfl, rfl⟩)
  · exact h.fail.elim

def T_ipe_Thing_Ride : TT := [(3, ⟨.int .i64, 1, 8, [.int .i64 0], some .int⟩),
  (4, ⟨.bool, 1, 1, [.bool false], some .bool⟩),
  (24, ⟨.int .i64, 1, 8, [.int .i64 0], some .int⟩),
  (39, ⟨.int .i64, 1, 8, [.int .i64 0], some .int⟩),
  (41, ⟨.strct [(0, 39), (1, 3), (2, 3), (3, 3), (4, 3), (5, 3), (6, 3), (7, 3), (8, 4), (9, 3), (10, 3), (11, 3), (12, 3), (13, 4)], 14, 112, [.int .i64 0, .int .i64 0, .int .i64 0, .int .i64 0, .int .i64 0, .int .i64 0, .int .i64 0, .int .i64 0, .bool false, .int .i64 0, .int .i64 0, .int .i64 0, .int .i64 0, .bool false], some .product⟩),
  (49, ⟨.strct [(0, 41)], 14, 112, [.int .i64 0, .int .i64 0, .int .i64 0, .int .i64 0, .int .i64 0, .int .i64 0, .int .i64 0, .int .i64 0, .bool false, .int .i64 0, .int .i64 0, .int .i64 0, .int .i64 0, .bool false], none⟩),
  (111, ⟨.slice 24, 1, 24, [.slice none 0 0], none⟩)]
theorem tOk_ipe_Thing_Ride : TOk Try.prog T_ipe_Thing_Ride := tOk_of (by kernel_rfl)
def sp_ipe_Thing_Ride : Spec := fun args hp => match args, hp with
  | [.agg p_cs, .val (.int .i64 day)], [] => (match decS .product p_cs with
    | some p => .vc (rightP p = true) (.tup [svProduct (rdP p day), iv (rdE p day)]) []
    | none => .fail "struct")
  | _, _ => .fail "ipe_Thing_Ride"
abbrev k_ipe_Thing_Ride : List (Option RK) := [none, none]
def a_ipe_Thing_Ride : List SV → List (Nat × VB) → Anns := fun _ _ => []
set_option maxHeartbeats 20000000 in
theorem ok_ipe_Thing_Ride : GOk Try.prog 23 (lift k_ipe_Thing_Ride sp_ipe_Thing_Ride) := by
  refine pf_ok (T := T_ipe_Thing_Ride) (Γ := (56, lift k_ipe_unless sp_ipe_unless) :: (57, lift k_ipe_in sp_ipe_in) :: (58, lift k_ipe_Thing_done sp_ipe_Thing_done) :: []) tOk_ipe_Thing_Ride (gOks_cons ok_ipe_unless (gOks_cons ok_ipe_in (gOks_cons ok_ipe_Thing_done (gOks_nil _)))) mixed Try.func23 (c := body Try.f23) (by kernel_rfl) (by kernel_rfl) k_ipe_Thing_Ride sp_ipe_Thing_Ride (by kernel_rfl) (by kernel_rfl) a_ipe_Thing_Ride ?_
  intro args hp s u hfit h
  unfold sp_ipe_Thing_Ride at h
  split at h
  · rename_i p_cs day
    split at h
    case h_2 => exact h.fail.elim
    rename_i p h_p
    obtain rfl := decS_ok (k := .product) rfl h_p
    clear h_p
    change Product at p
    obtain ⟨hvc, rfl, rfl⟩ := h.vc
    clear h hfit
    conv => whnf
    repeat' (first
      | (refine And.intro ?_ ?_ <;> try conv => whnf)
      | (intro hh; first | (cases hh; done) | conv => whnf))
    all_goals try first | rfl | kernel_rfl
    all_goals try simp only [decide_eq_true_eq, decide_eq_false_iff_not] at *
    all_goals try simp only [Key_eta, Share_eta, Journey_eta, Batch_eta, FieldT_eta, OpB_eta, Product_eta, Item_eta, Delta_eta, Elem_eta, Rule_eta, Do10_eta, Key_beq, Share_beq, Journey_beq, FieldT_beq, Product_beq, Item_beq, Do10_beq, toNat0, toNat1, toNat2, toNat3, toNat4, toNat5, toNat6, toNat7, toNat8, toNat9, toNat10, toNat11, toNat12, toNat13, toNat14, toNat15, toNat16, toNat17, toNat18, toNat19, iA, iOf, atS, rwA, castK, zK, true_and, and_true, decide_eq_true_eq, decide_eq_false_iff_not, beq_iff_eq, bne_iff_ne, beq_eq_false_iff_ne, bne_eq_false_iff_eq, Bool.not_eq_true', Bool.not_eq_false', Bool.not_eq_true, Bool.not_eq_false, Nat.succ_eq_add_one, Int.not_lt, Int.not_le, gt_iff_lt, ge_iff_le, show bytesS T_ipe_Thing_Ride 111 = 8 from rfl] at *
    all_goals have hR := right_iff.1 hvc
    all_goals obtain ⟨⟨a1, a2⟩, ⟨b1, b2⟩, ⟨c1, c2⟩, ⟨d1, d2⟩, ⟨e1, e2⟩, ⟨f1, f2⟩, ⟨g1, g2⟩, ⟨h1, h2⟩, ⟨i1, i2⟩, ⟨j1, j2⟩, ⟨k1, k2⟩, ⟨l1, l2⟩⟩ := hR
    all_goals try (refine Vc.mk ⟨by simp, ?_⟩; omega)
    all_goals try simp only [Bool.and_eq_true, Bool.and_eq_false_iff, decide_eq_true_eq, decide_eq_false_iff_not] at *
    all_goals (
      refine Res.mk ?_
      refine fields_done ?_ ?_
      · simp only [dE25, dE2, dE28, dE26, dE27, dE29, dE0, rdE]
        cases hb : p.blocked <;> cases ho : p.open_ <;> simp only [hb, ho, counted,  bne_iff_ne, beq_iff_eq, decide_eq_true_eq, Bool.and_eq_true, Bool.not_eq_true', Bool.not_false, Bool.not_true, Bool.false_eq_true, if_false, if_true, ne_eq, not_true_eq_false, not_false_eq_true]
        all_goals try rfl
        all_goals (repeat' split) <;> first | rfl | omega | (simp_all; done) | (simp_all; omega) | (trace_state; sorry)
      · unfold rdP
        split
        · (first | rfl | (simp only [Product.mk.injEq, true_and, and_true]; first | done | (refine ⟨?_, ?_⟩ <;> (first | rw [if_pos (show counted p by unfold counted; omega), wrap64 (n := p.rides - 1) (by omega) (by omega)] | rw [if_neg (show ¬ counted p by unfold counted; omega)])) | (first | rw [if_pos (show counted p by unfold counted; omega), wrap64 (n := p.rides - 1) (by omega) (by omega)] | rw [if_neg (show ¬ counted p by unfold counted; omega)])))
        · rfl)
  · exact h.fail.elim

end Go.Proofs.Ytgajbggdamlhlaa.Sx
