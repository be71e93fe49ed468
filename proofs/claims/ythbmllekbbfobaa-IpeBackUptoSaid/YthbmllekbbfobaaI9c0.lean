import Derived.Test.YthbmllekbbfobaaProg
import Derived.Test.YthbmllekbbfobaaSxU
import Derived.IntWalk
import Derived.Test.YthbmllekbbfobaaI9r
/-! ipe, what may be done -/
namespace Go.Proofs.Ythbmllekbbfobaa.Sx
open Go
set_option linter.unusedVariables false
set_option linter.unusedSimpArgs false
set_option maxRecDepth 100000

def T_ipe_Thing_done : TT := [(3, ⟨.int .i64, 1, 8, [.int .i64 0], some .int⟩),
  (4, ⟨.bool, 1, 1, [.bool false], some .bool⟩),
  (27, ⟨.int .i64, 1, 8, [.int .i64 0], some .int⟩),
  (56, ⟨.int .i64, 1, 8, [.int .i64 0], some .int⟩),
  (58, ⟨.strct [(0, 56), (1, 3), (2, 3), (3, 3), (4, 3), (5, 3), (6, 3), (7, 3), (8, 4), (9, 3), (10, 3), (11, 3), (12, 3), (13, 4)], 14, 112, [.int .i64 0, .int .i64 0, .int .i64 0, .int .i64 0, .int .i64 0, .int .i64 0, .int .i64 0, .int .i64 0, .bool false, .int .i64 0, .int .i64 0, .int .i64 0, .int .i64 0, .bool false], some .product⟩),
  (153, ⟨.strct [(0, 58)], 14, 112, [.int .i64 0, .int .i64 0, .int .i64 0, .int .i64 0, .int .i64 0, .int .i64 0, .int .i64 0, .int .i64 0, .bool false, .int .i64 0, .int .i64 0, .int .i64 0, .int .i64 0, .bool false], none⟩),
  (217, ⟨.slice 27, 1, 24, [.slice none 0 0], none⟩)]
theorem tOk_ipe_Thing_done : TOk Try.prog T_ipe_Thing_done := tOk_of (by kernel_rfl)
def sp_ipe_Thing_done : Spec := fun args hp => match args, hp with
  | [.agg p_cs, .slF 0], [(0, .row o_es .int es)] => (match decS .product p_cs with
    | some p => .vc (es.length ≤ 1048576 ∧ 0 ≤ p.txn ∧ p.txn ≤ 65535) (.tup [svProduct (doneP p es), iv (doneE p es)]) []
    | none => .fail "struct")
  | _, _ => .fail "ipe_Thing_done"
abbrev k_ipe_Thing_done : List (Option RK) := [none, some .int]
def a_ipe_Thing_done : List SV → List (Nat × VB) → Anns := fun args hp => match args, hp with
  | [.agg p_cs, .slF 0], [(0, .row o_es .int es)] => (match decS .product p_cs with
    | some p => [(2, fun S => .inv [] [] [] fun ids vs rs => { cars := [.i 10 .i64], inv := fun ((i, _) : Int × Unit) => IDn es i, mu := fun ((i, _) : Int × Unit) => es.length - i.toNat })]
    | none => [])
  | _, _ => []
set_option maxHeartbeats 20000000 in
theorem ok_ipe_Thing_done : GOk Try.prog 123 (lift k_ipe_Thing_done sp_ipe_Thing_done) := by
  refine pf_ok (T := T_ipe_Thing_done) (Γ := []) tOk_ipe_Thing_done (gOks_nil _) mixed Try.func123 (c := body Try.f123) (by kernel_rfl) (by kernel_rfl) k_ipe_Thing_done sp_ipe_Thing_done (by kernel_rfl) (by kernel_rfl) a_ipe_Thing_done ?_
  intro args hp s u hfit h
  unfold sp_ipe_Thing_done at h
  split at h
  · rename_i p_cs o_es es
    split at h
    case h_2 => exact h.fail.elim
    rename_i p h_p
    obtain rfl := decS_ok (k := .product) rfl h_p
    clear h_p
    change Product at p
    obtain ⟨hvc, rfl, rfl⟩ := h.vc
    clear h hfit
    change List Int at es
    conv => whnf
    repeat' (first
      | (refine And.intro ?_ ?_ <;> try conv => whnf)
      | (intro hh; first | (cases hh; done) | conv => whnf))
    all_goals try first | rfl | kernel_rfl
    all_goals try simp only [decide_eq_true_eq, decide_eq_false_iff_not] at *
    all_goals try simp only [Key_eta, Share_eta, Journey_eta, Batch_eta, FieldT_eta, OpB_eta, Product_eta, Item_eta, Delta_eta, Elem_eta, Rule_eta, Do10_eta, Key_beq, Share_beq, Journey_beq, FieldT_beq, Product_beq, Item_beq, Do10_beq, toNat0, toNat1, toNat2, toNat3, toNat4, toNat5, toNat6, toNat7, toNat8, toNat9, toNat10, toNat11, toNat12, toNat13, toNat14, toNat15, toNat16, toNat17, toNat18, toNat19, iA, iOf, atS, rwA, castK, zK, true_and, and_true, decide_eq_true_eq, decide_eq_false_iff_not, beq_iff_eq, bne_iff_ne, beq_eq_false_iff_ne, bne_eq_false_iff_eq, Bool.not_eq_true', Bool.not_eq_false', Bool.not_eq_true, Bool.not_eq_false, Nat.succ_eq_add_one, Int.not_lt, Int.not_le, gt_iff_lt, ge_iff_le, show bytesS T_ipe_Thing_done 217 = 8 from rfl] at *
    all_goals obtain ⟨hL, hT⟩ := hvc
    all_goals try (
      have hex := ‹IDn _ _›
      obtain ⟨j, hj, rfl, hf⟩ := hex
      try simp only [Int.toNat_natCast] at *)
    all_goals try (refine Vc.mk ?_; omega)
    all_goals try (exact ⟨⟨0, Nat.zero_le _, rfl, rfl⟩⟩)
    all_goals try (
      have hlt : j < es.length := by omega
      rw [firstE_drop es j hlt] at hf
      have hz : es.getD j 0 ≠ 0 := ‹_›
      rw [if_neg hz] at hf
      have hE : doneE p es = es.getD j 0 := by rw [doneE, ← hf, if_pos hz]
      obtain ⟨e1, e2⟩ := done_ne hE hz
      rw [← e1, ← e2]
      exact Res.mk ⟨rfl, rfl, rfl, rfl, rfl, rfl, rfl, rfl, rfl, rfl, rfl, rfl, rfl, rfl, rfl⟩)
    all_goals try (
      have hlt : j < es.length := by omega
      rw [firstE_drop es j hlt] at hf
      have hz : es.getD j 0 = 0 := ‹_›
      rw [if_pos hz] at hf
      exact ⟨⟨j + 1, by omega, by rw [wrap64] <;> omega, hf⟩, by rw [wrap64] <;> omega⟩)
    all_goals have hf0 : firstE es = 0 := by rw [← hf, List.drop_of_length_le (by omega)]; rfl
    all_goals try (
      have hx : p.txn = 65535 := ‹_›
      have hE : doneE p es = 29 := by rw [doneE, hf0, if_neg (by decide), if_pos hx]
      obtain ⟨e1, e2⟩ := done_ne hE (by decide)
      rw [← e1, ← e2]
      exact Res.mk ⟨rfl, rfl, rfl, rfl, rfl, rfl, rfl, rfl, rfl, rfl, rfl, rfl, rfl, rfl, rfl⟩)
    all_goals (
      have hE : doneE p es = 0 := by rw [doneE, hf0, if_neg (by decide), if_neg (by assumption)]
      rw [doneP_eq hE, hE, if_pos rfl, wrap64 (by omega) (by omega)]
      exact Res.mk ⟨rfl, rfl, rfl, rfl, rfl, rfl, rfl, rfl, rfl, rfl, rfl, rfl, rfl, rfl, rfl⟩)
  · exact h.fail.elim

end Go.Proofs.Ythbmllekbbfobaa.Sx
