import Derived.Test.YtncdakkigkmfjaaProg
import Derived.Test.YtncdakkigkmfjaaSxU
import Derived.IntWalk
import Derived.Test.YtncdakkigkmfjaaF4s0
/-! fare, its laws -/
namespace Go.Proofs.Ytncdakkigkmfjaa.Sx
open Go
set_option linter.unusedVariables false
set_option linter.unusedSimpArgs false
set_option maxRecDepth 100000

def T_fare_Right : TT := [(3, ⟨.int .i64, 1, 8, [.int .i64 0], some .int⟩),
  (4, ⟨.bool, 1, 1, [.bool false], some .bool⟩),
  (24, ⟨.slice 3, 1, 24, [.slice none 0 0], none⟩),
  (47, ⟨.slice 24, 1, 24, [.slice none 0 0], none⟩),
  (49, ⟨.strct [(0, 3), (1, 3), (2, 47), (3, 3), (4, 3), (5, 3), (6, 3)], 7, 72, [.int .i64 0, .int .i64 0, .slice none 0 0, .int .i64 0, .int .i64 0, .int .i64 0, .int .i64 0], none⟩)]
theorem tOk_fare_Right : TOk Try.prog T_fare_Right := tOk_of (by kernel_rfl)
def sp_fare_Right : Spec := fun args hp => match args, hp with
  | [.agg [.val (.int .i64 c_ops), .val (.int .i64 c_cards), .val (.slice c_acc_a c_acc_l c_acc_c), .val (.int .i64 c_base), .val (.int .i64 c_step), .val (.int .i64 c_cap), .val (.int .i64 c_disk)]], [] => .ok (bv (rightC (⟨c_base, c_step, c_cap⟩ : Config))) []
  | _, _ => .fail "fare_Right"
abbrev k_fare_Right : List (Option RK) := [none]
def a_fare_Right : List SV → List (Nat × VB) → Anns := fun _ _ => []
set_option maxHeartbeats 20000000 in
theorem ok_fare_Right : GOk Try.prog 31 (lift k_fare_Right sp_fare_Right) := by
  refine pf_ok (T := T_fare_Right) (Γ := (63, lift k_fare_in sp_fare_in) :: []) tOk_fare_Right (gOks_cons ok_fare_in (gOks_nil _)) mixed Try.func31 (c := body Try.f31) (by kernel_rfl) (by kernel_rfl) k_fare_Right sp_fare_Right (by kernel_rfl) (by kernel_rfl) a_fare_Right ?_
  intro args hp s u hfit h
  unfold sp_fare_Right at h
  split at h
  · rename_i c_ops c_cards c_acc_a c_acc_l c_acc_c c_base c_step c_cap c_disk
    obtain ⟨rfl, rfl⟩ := h.ok
    clear h hfit
    conv => whnf
    repeat' (first
      | (refine And.intro ?_ ?_ <;> try conv => whnf)
      | (intro hh; first | (cases hh; done) | conv => whnf))
    all_goals try first | rfl | kernel_rfl
    all_goals try simp only [decide_eq_true_eq, decide_eq_false_iff_not] at *
    all_goals try simp only [Key_eta, Share_eta, Journey_eta, Batch_eta, FieldT_eta, OpB_eta, Product_eta, Key_beq, Share_beq, Journey_beq, FieldT_beq, Product_beq, toNat0, toNat1, toNat2, toNat3, toNat4, toNat5, toNat6, toNat7, toNat8, toNat9, toNat10, toNat11, toNat12, toNat13, toNat14, toNat15, toNat16, toNat17, toNat18, toNat19, iA, iOf, atS, zK, true_and, and_true, decide_eq_true_eq, decide_eq_false_iff_not, beq_iff_eq, bne_iff_ne, beq_eq_false_iff_ne, bne_eq_false_iff_eq, Bool.not_eq_true', Bool.not_eq_false', Bool.not_eq_true, Bool.not_eq_false, Nat.succ_eq_add_one, Int.not_lt, Int.not_le, gt_iff_lt, ge_iff_le, show bytesS T_fare_Right 24 = 8 from rfl, show bytesS T_fare_Right 47 = 24 from rfl] at *
    all_goals first
      | (refine Vc.mk ?_; simp; done)
      | exact Res.mk rfl
  · exact h.fail.elim

def T_fare_Fare : TT := [(3, ⟨.int .i64, 1, 8, [.int .i64 0], some .int⟩),
  (4, ⟨.bool, 1, 1, [.bool false], some .bool⟩),
  (24, ⟨.slice 3, 1, 24, [.slice none 0 0], none⟩),
  (47, ⟨.slice 24, 1, 24, [.slice none 0 0], none⟩),
  (49, ⟨.strct [(0, 3), (1, 3), (2, 47), (3, 3), (4, 3), (5, 3), (6, 3)], 7, 72, [.int .i64 0, .int .i64 0, .slice none 0 0, .int .i64 0, .int .i64 0, .int .i64 0, .int .i64 0], none⟩)]
theorem tOk_fare_Fare : TOk Try.prog T_fare_Fare := tOk_of (by kernel_rfl)
def sp_fare_Fare : Spec := fun args hp => match args, hp with
  | [.agg [.val (.int .i64 c_ops), .val (.int .i64 c_cards), .val (.slice c_acc_a c_acc_l c_acc_c), .val (.int .i64 c_base), .val (.int .i64 c_step), .val (.int .i64 c_cap), .val (.int .i64 c_disk)], .val (.int .i64 frm), .val (.int .i64 to)], [] => .ok (iv (fareC (⟨c_base, c_step, c_cap⟩ : Config) frm to)) []
  | _, _ => .fail "fare_Fare"
abbrev k_fare_Fare : List (Option RK) := [none, none, none]
def a_fare_Fare : List SV → List (Nat × VB) → Anns := fun _ _ => []
set_option maxHeartbeats 20000000 in
theorem ok_fare_Fare : GOk Try.prog 30 (lift k_fare_Fare sp_fare_Fare) := by
  refine pf_ok (T := T_fare_Fare) (Γ := (31, lift k_fare_Right sp_fare_Right) :: (63, lift k_fare_in sp_fare_in) :: []) tOk_fare_Fare (gOks_cons ok_fare_Right (gOks_cons ok_fare_in (gOks_nil _))) mixed Try.func30 (c := body Try.f30) (by kernel_rfl) (by kernel_rfl) k_fare_Fare sp_fare_Fare (by kernel_rfl) (by kernel_rfl) a_fare_Fare ?_
  intro args hp s u hfit h
  unfold sp_fare_Fare at h
  split at h
  · rename_i c_ops c_cards c_acc_a c_acc_l c_acc_c c_base c_step c_cap c_disk frm to
    obtain ⟨rfl, rfl⟩ := h.ok
    clear h hfit
    conv => whnf
    repeat' (first
      | (refine And.intro ?_ ?_ <;> try conv => whnf)
      | (intro hh; first | (cases hh; done) | conv => whnf))
    all_goals try first | rfl | kernel_rfl
    all_goals try simp only [decide_eq_true_eq, decide_eq_false_iff_not] at *
    all_goals try simp only [Key_eta, Share_eta, Journey_eta, Batch_eta, FieldT_eta, OpB_eta, Product_eta, Key_beq, Share_beq, Journey_beq, FieldT_beq, Product_beq, toNat0, toNat1, toNat2, toNat3, toNat4, toNat5, toNat6, toNat7, toNat8, toNat9, toNat10, toNat11, toNat12, toNat13, toNat14, toNat15, toNat16, toNat17, toNat18, toNat19, iA, iOf, atS, zK, true_and, and_true, decide_eq_true_eq, decide_eq_false_iff_not, beq_iff_eq, bne_iff_ne, beq_eq_false_iff_ne, bne_eq_false_iff_eq, Bool.not_eq_true', Bool.not_eq_false', Bool.not_eq_true, Bool.not_eq_false, Nat.succ_eq_add_one, Int.not_lt, Int.not_le, gt_iff_lt, ge_iff_le, show bytesS T_fare_Fare 24 = 8 from rfl, show bytesS T_fare_Fare 47 = 24 from rfl] at *
    · exact Res.mk (by simp [fareC, *])
    · exact Vc.mk (by simp)
    · exact Res.mk (by simp [fareC, *])
    · have h1 := (rightC_iff _).1 ‹rightC _ = true›
      have h2 := (in2_iff _ _).1 ‹inR 0 255 _ = true›
      try simp only at h1
      have hm := fare_mul (a := c_step) (b := max (frm - to) (to - frm)) (by omega) (by omega) (by omega) (by omega)
      refine Res.mk ?_
      rw [fareC_ok ‹rightC _ = true› ‹inR 0 255 _ = true›]
      simp only [cond_true, cond_false]
      rw [wrap64 (n := frm - to) (by omega) (by omega), wrap64 (n := to - frm) (by omega) (by omega)]
      rw [show (if frm - to < to - frm then to - frm else frm - to) = max (frm - to) (to - frm) by split <;> omega]
      rw [wrap64 (n := c_step * _) (by omega) (by omega), wrap64 (by omega) (by omega)]
      split <;> omega
  · exact h.fail.elim

def T_fare_Flat : TT := [(3, ⟨.int .i64, 1, 8, [.int .i64 0], some .int⟩),
  (24, ⟨.slice 3, 1, 24, [.slice none 0 0], none⟩),
  (47, ⟨.slice 24, 1, 24, [.slice none 0 0], none⟩),
  (49, ⟨.strct [(0, 3), (1, 3), (2, 47), (3, 3), (4, 3), (5, 3), (6, 3)], 7, 72, [.int .i64 0, .int .i64 0, .slice none 0 0, .int .i64 0, .int .i64 0, .int .i64 0, .int .i64 0], none⟩)]
theorem tOk_fare_Flat : TOk Try.prog T_fare_Flat := tOk_of (by kernel_rfl)
def sp_fare_Flat : Spec := fun args hp => match args, hp with
  | [.agg [.val (.int .i64 c_ops), .val (.int .i64 c_cards), .val (.slice c_acc_a c_acc_l c_acc_c), .val (.int .i64 c_base), .val (.int .i64 c_step), .val (.int .i64 c_cap), .val (.int .i64 c_disk)]], [] => .ok (iv (fareC (⟨c_base, c_step, c_cap⟩ : Config) 0 0)) []
  | _, _ => .fail "fare_Flat"
abbrev k_fare_Flat : List (Option RK) := [none]
def a_fare_Flat : List SV → List (Nat × VB) → Anns := fun _ _ => []
set_option maxHeartbeats 20000000 in
theorem ok_fare_Flat : GOk Try.prog 34 (lift k_fare_Flat sp_fare_Flat) := by
  refine pf_ok (T := T_fare_Flat) (Γ := (30, lift k_fare_Fare sp_fare_Fare) :: []) tOk_fare_Flat (gOks_cons ok_fare_Fare (gOks_nil _)) mixed Try.func34 (c := body Try.f34) (by kernel_rfl) (by kernel_rfl) k_fare_Flat sp_fare_Flat (by kernel_rfl) (by kernel_rfl) a_fare_Flat ?_
  intro args hp s u hfit h
  unfold sp_fare_Flat at h
  split at h
  · rename_i c_ops c_cards c_acc_a c_acc_l c_acc_c c_base c_step c_cap c_disk
    obtain ⟨rfl, rfl⟩ := h.ok
    clear h hfit
    conv => whnf
    repeat' (first
      | (refine And.intro ?_ ?_ <;> try conv => whnf)
      | (intro hh; first | (cases hh; done) | conv => whnf))
    all_goals try first | rfl | kernel_rfl
    all_goals try simp only [decide_eq_true_eq, decide_eq_false_iff_not] at *
    all_goals try simp only [Key_eta, Share_eta, Journey_eta, Batch_eta, FieldT_eta, OpB_eta, Product_eta, Key_beq, Share_beq, Journey_beq, FieldT_beq, Product_beq, toNat0, toNat1, toNat2, toNat3, toNat4, toNat5, toNat6, toNat7, toNat8, toNat9, toNat10, toNat11, toNat12, toNat13, toNat14, toNat15, toNat16, toNat17, toNat18, toNat19, iA, iOf, atS, zK, true_and, and_true, decide_eq_true_eq, decide_eq_false_iff_not, beq_iff_eq, bne_iff_ne, beq_eq_false_iff_ne, bne_eq_false_iff_eq, Bool.not_eq_true', Bool.not_eq_false', Bool.not_eq_true, Bool.not_eq_false, Nat.succ_eq_add_one, Int.not_lt, Int.not_le, gt_iff_lt, ge_iff_le, show bytesS T_fare_Flat 24 = 8 from rfl, show bytesS T_fare_Flat 47 = 24 from rfl] at *
    all_goals exact Res.mk trivial
  · exact h.fail.elim

end Go.Proofs.Ytncdakkigkmfjaa.Sx
