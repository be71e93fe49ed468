import Derived.Test.YtncdakkigkmfjaaProg
import Derived.Test.YtncdakkigkmfjaaSxU
import Derived.IntWalk
import Derived.Test.YtncdakkigkmfjaaF5r
/-! FareCosts -/
namespace Go.Proofs.Ytncdakkigkmfjaa.Sx
open Go
set_option linter.unusedVariables false
set_option linter.unusedSimpArgs false
set_option maxRecDepth 100000

def T_fareboxref13_Right : TT := [(3, ⟨.int .i64, 1, 8, [.int .i64 0], some .int⟩),
  (4, ⟨.bool, 1, 1, [.bool false], some .bool⟩),
  (24, ⟨.slice 3, 1, 24, [.slice none 0 0], none⟩),
  (47, ⟨.slice 24, 1, 24, [.slice none 0 0], none⟩),
  (49, ⟨.strct [(0, 3), (1, 3), (2, 47), (3, 3), (4, 3), (5, 3), (6, 3)], 7, 72, [.int .i64 0, .int .i64 0, .slice none 0 0, .int .i64 0, .int .i64 0, .int .i64 0, .int .i64 0], none⟩)]
theorem tOk_fareboxref13_Right : TOk Try.prog T_fareboxref13_Right := tOk_of (by kernel_rfl)
def sp_fareboxref13_Right : Spec := fun args hp => match args, hp with
  | [.agg [.val (.int .i64 c_ops), .val (.int .i64 c_cards), .val (.slice c_acc_a c_acc_l c_acc_c), .val (.int .i64 c_base), .val (.int .i64 c_step), .val (.int .i64 c_cap), .val (.int .i64 c_disk)]], [] => .ok (bv (rightC (⟨c_base, c_step, c_cap⟩ : Config))) []
  | _, _ => .fail "fareboxref13_Right"
abbrev k_fareboxref13_Right : List (Option RK) := [none]
def a_fareboxref13_Right : List SV → List (Nat × VB) → Anns := fun _ _ => []
set_option maxHeartbeats 20000000 in
theorem ok_fareboxref13_Right : GOk Try.prog 32 (lift k_fareboxref13_Right sp_fareboxref13_Right) := by
  refine pf_ok (T := T_fareboxref13_Right) (Γ := []) tOk_fareboxref13_Right (gOks_nil _) mixed Try.func32 (c := body Try.f32) (by kernel_rfl) (by kernel_rfl) k_fareboxref13_Right sp_fareboxref13_Right (by kernel_rfl) (by kernel_rfl) a_fareboxref13_Right ?_
  intro args hp s u hfit h
  unfold sp_fareboxref13_Right at h
  split at h
  · rename_i c_ops c_cards c_acc_a c_acc_l c_acc_c c_base c_step c_cap c_disk
    obtain ⟨rfl, rfl⟩ := h.ok
    clear h hfit
    conv => whnf
    repeat' (first
      | (refine And.intro ?_ ?_ <;> try conv => whnf)
      | (intro hh; first | (cases hh; done) | conv => whnf))
    all_goals try first | rfl | kernel_rfl
    all_goals try simp only [decide_eq_true_eq, decide_eq_false_iff_not] at *
    all_goals try simp only [Key_eta, Share_eta, Journey_eta, Batch_eta, FieldT_eta, OpB_eta, Product_eta, Key_beq, Share_beq, Journey_beq, FieldT_beq, Product_beq, toNat0, toNat1, toNat2, toNat3, toNat4, toNat5, toNat6, toNat7, toNat8, toNat9, toNat10, toNat11, toNat12, toNat13, toNat14, toNat15, toNat16, toNat17, toNat18, toNat19, iA, iOf, atS, rwA, castK, zK, true_and, and_true, decide_eq_true_eq, decide_eq_false_iff_not, beq_iff_eq, bne_iff_ne, beq_eq_false_iff_ne, bne_eq_false_iff_eq, Bool.not_eq_true', Bool.not_eq_false', Bool.not_eq_true, Bool.not_eq_false, Nat.succ_eq_add_one, Int.not_lt, Int.not_le, gt_iff_lt, ge_iff_le, show bytesS T_fareboxref13_Right 24 = 8 from rfl, show bytesS T_fareboxref13_Right 47 = 24 from rfl] at *
    all_goals (refine Res.mk ?_; rw [Bool.eq_iff_iff, rightC_iff]; simp_all; try omega)
  · exact h.fail.elim

def T_fareboxref13_Fare : TT := [(3, ⟨.int .i64, 1, 8, [.int .i64 0], some .int⟩),
  (4, ⟨.bool, 1, 1, [.bool false], some .bool⟩),
  (24, ⟨.slice 3, 1, 24, [.slice none 0 0], none⟩),
  (47, ⟨.slice 24, 1, 24, [.slice none 0 0], none⟩),
  (49, ⟨.strct [(0, 3), (1, 3), (2, 47), (3, 3), (4, 3), (5, 3), (6, 3)], 7, 72, [.int .i64 0, .int .i64 0, .slice none 0 0, .int .i64 0, .int .i64 0, .int .i64 0, .int .i64 0], none⟩)]
theorem tOk_fareboxref13_Fare : TOk Try.prog T_fareboxref13_Fare := tOk_of (by kernel_rfl)
def sp_fareboxref13_Fare : Spec := fun args hp => match args, hp with
  | [.agg [.val (.int .i64 c_ops), .val (.int .i64 c_cards), .val (.slice c_acc_a c_acc_l c_acc_c), .val (.int .i64 c_base), .val (.int .i64 c_step), .val (.int .i64 c_cap), .val (.int .i64 c_disk)], .val (.int .i64 f), .val (.int .i64 t)], [] => .ok (iv (fareC (⟨c_base, c_step, c_cap⟩ : Config) f t)) []
  | _, _ => .fail "fareboxref13_Fare"
abbrev k_fareboxref13_Fare : List (Option RK) := [none, none, none]
def a_fareboxref13_Fare : List SV → List (Nat × VB) → Anns := fun args hp => match args, hp with
  | [.agg [.val (.int .i64 c_ops), .val (.int .i64 c_cards), .val (.slice c_acc_a c_acc_l c_acc_c), .val (.int .i64 c_base), .val (.int .i64 c_step), .val (.int .i64 c_cap), .val (.int .i64 c_disk)], .val (.int .i64 f), .val (.int .i64 t)], [] => [(5, fun S => .inv [] [] [] fun ids vs rs => { cars := [.i 8 .i64, .i 7 .i64], inv := fun ((i, n, _) : Int × Int × Unit) => IFA (⟨c_base, c_step, c_cap⟩ : Config) f t i n, mu := fun ((i, n, _) : Int × Int × Unit) => (t - i).toNat }),
    (9, fun S => .inv [] [] [] fun ids vs rs => { cars := [.i 9 .i64, .i 7 .i64], inv := fun ((i, n, _) : Int × Int × Unit) => IFB (⟨c_base, c_step, c_cap⟩ : Config) f t i n, mu := fun ((i, n, _) : Int × Int × Unit) => (f - i).toNat })]
  | _, _ => []
set_option maxHeartbeats 20000000 in
theorem ok_fareboxref13_Fare : GOk Try.prog 33 (lift k_fareboxref13_Fare sp_fareboxref13_Fare) := by
  refine pf_ok (T := T_fareboxref13_Fare) (Γ := (32, lift k_fareboxref13_Right sp_fareboxref13_Right) :: []) tOk_fareboxref13_Fare (gOks_cons ok_fareboxref13_Right (gOks_nil _)) mixed Try.func33 (c := body Try.f33) (by kernel_rfl) (by kernel_rfl) k_fareboxref13_Fare sp_fareboxref13_Fare (by kernel_rfl) (by kernel_rfl) a_fareboxref13_Fare ?_
  intro args hp s u hfit h
  unfold sp_fareboxref13_Fare at h
  split at h
  · rename_i c_ops c_cards c_acc_a c_acc_l c_acc_c c_base c_step c_cap c_disk f t
    obtain ⟨rfl, rfl⟩ := h.ok
    clear h hfit
    conv => whnf
    repeat' (first
      | (refine And.intro ?_ ?_ <;> try conv => whnf)
      | (intro hh; first | (cases hh; done) | conv => whnf))
    all_goals try first | rfl | kernel_rfl
    all_goals try simp only [decide_eq_true_eq, decide_eq_false_iff_not] at *
    all_goals try simp only [Key_eta, Share_eta, Journey_eta, Batch_eta, FieldT_eta, OpB_eta, Product_eta, Key_beq, Share_beq, Journey_beq, FieldT_beq, Product_beq, toNat0, toNat1, toNat2, toNat3, toNat4, toNat5, toNat6, toNat7, toNat8, toNat9, toNat10, toNat11, toNat12, toNat13, toNat14, toNat15, toNat16, toNat17, toNat18, toNat19, iA, iOf, atS, rwA, castK, zK, true_and, and_true, decide_eq_true_eq, decide_eq_false_iff_not, beq_iff_eq, bne_iff_ne, beq_eq_false_iff_ne, bne_eq_false_iff_eq, Bool.not_eq_true', Bool.not_eq_false', Bool.not_eq_true, Bool.not_eq_false, Nat.succ_eq_add_one, Int.not_lt, Int.not_le, gt_iff_lt, ge_iff_le, show bytesS T_fareboxref13_Fare 24 = 8 from rfl, show bytesS T_fareboxref13_Fare 47 = 24 from rfl] at *
    · exact Res.mk (fareC_no (.inl ‹_›)).symm
    iterate 4 exact Res.mk (fareC_no (.inr (by omega))).symm
    all_goals have hc := (rightC_iff _).1 ‹rightC _ = true›
    all_goals try simp only at hc
    all_goals try (obtain ⟨k, rfl, hk, rfl⟩ := ‹IFA _ _ _ _ _›)
    all_goals try (obtain ⟨q, rfl, hq, rfl⟩ := ‹IFB _ _ _ _ _›)
    · exact ⟨⟨0, by omega, .inr rfl, by simp⟩⟩
    · have hm := fare_mul (a := c_step) (b := k) (by omega) (by omega) (by omega) (by omega)
      refine ⟨⟨k + 1, by rw [wrap64] <;> omega, .inl (by rw [wrap64] <;> omega), ?_⟩, by rw [wrap64 (by omega) (by omega)]; omega⟩
      simp only
      rw [wrap64 (by omega) (by omega), Int.natCast_add, Int.mul_add]
      omega
    · refine ⟨⟨0, by omega, .inr rfl, ?_⟩⟩
      simp only
      rw [show (k : Int) = max (t - f) 0 by omega]
      simp
    · have hm := fare_mul (a := c_step) (b := max (t - f) 0 + q) (by omega) (by omega) (by omega) (by omega)
      refine ⟨⟨q + 1, by rw [wrap64] <;> omega, .inl (by rw [wrap64] <;> omega), ?_⟩, by rw [wrap64 (by omega) (by omega)]; omega⟩
      simp only
      have e2 : c_step * (max (t - f) 0 + ((q + 1 : Nat) : Int)) = c_step * (max (t - f) 0 + (q : Int)) + c_step := by rw [Int.natCast_add, ← Int.add_assoc, Int.mul_add]; simp
      rw [e2, wrap64 (by omega) (by omega)]
      omega
    all_goals (
      refine Res.mk ?_
      rw [fareC_ok ‹rightC _ = true› ((in2_iff _ _).2 (by omega))]
      have e : max (t - f) 0 + (q : Int) = max (f - t) (t - f) := by omega
      simp only [e] at *
      omega)
  · exact h.fail.elim

def T_fareboxlaw13_FareCosts : TT := [(3, ⟨.int .i64, 1, 8, [.int .i64 0], some .int⟩),
  (4, ⟨.bool, 1, 1, [.bool false], some .bool⟩),
  (24, ⟨.slice 3, 1, 24, [.slice none 0 0], none⟩),
  (47, ⟨.slice 24, 1, 24, [.slice none 0 0], none⟩),
  (49, ⟨.strct [(0, 3), (1, 3), (2, 47), (3, 3), (4, 3), (5, 3), (6, 3)], 7, 72, [.int .i64 0, .int .i64 0, .slice none 0 0, .int .i64 0, .int .i64 0, .int .i64 0, .int .i64 0], none⟩)]
theorem tOk_fareboxlaw13_FareCosts : TOk Try.prog T_fareboxlaw13_FareCosts := tOk_of (by kernel_rfl)
def sp_fareboxlaw13_FareCosts : Spec := fun args hp => match args, hp with
  | [.agg [.val (.int .i64 c_ops), .val (.int .i64 c_cards), .val (.slice c_acc_a c_acc_l c_acc_c), .val (.int .i64 c_base), .val (.int .i64 c_step), .val (.int .i64 c_cap), .val (.int .i64 c_disk)], .val (.int .i64 f), .val (.int .i64 t)], [] => .vc (-9223372036854775808 ≤ t ∧ t ≤ 9223372036854775807) (bv true) []
  | _, _ => .fail "fareboxlaw13_FareCosts"
abbrev k_fareboxlaw13_FareCosts : List (Option RK) := [none, none, none]
def a_fareboxlaw13_FareCosts : List SV → List (Nat × VB) → Anns := fun _ _ => []
set_option maxHeartbeats 20000000 in
theorem ok_fareboxlaw13_FareCosts : GOk Try.prog 8 (lift k_fareboxlaw13_FareCosts sp_fareboxlaw13_FareCosts) := by
  refine pf_ok (T := T_fareboxlaw13_FareCosts) (Γ := (29, lift k_fareboxlaw13_awake sp_fareboxlaw13_awake) :: (30, lift k_fare_Fare sp_fare_Fare) :: (31, lift k_fare_Right sp_fare_Right) :: (32, lift k_fareboxref13_Right sp_fareboxref13_Right) :: (33, lift k_fareboxref13_Fare sp_fareboxref13_Fare) :: (34, lift k_fare_Flat sp_fare_Flat) :: []) tOk_fareboxlaw13_FareCosts (gOks_cons ok_fareboxlaw13_awake (gOks_cons ok_fare_Fare (gOks_cons ok_fare_Right (gOks_cons ok_fareboxref13_Right (gOks_cons ok_fareboxref13_Fare (gOks_cons ok_fare_Flat (gOks_nil _))))))) mixed Try.func8 (c := body Try.f8) (by kernel_rfl) (by kernel_rfl) k_fareboxlaw13_FareCosts sp_fareboxlaw13_FareCosts (by kernel_rfl) (by kernel_rfl) a_fareboxlaw13_FareCosts ?_
  intro args hp s u hfit h
  unfold sp_fareboxlaw13_FareCosts at h
  split at h
  · rename_i c_ops c_cards c_acc_a c_acc_l c_acc_c c_base c_step c_cap c_disk f t
    obtain ⟨hvc, rfl, rfl⟩ := h.vc
    clear h hfit
    conv => whnf
    repeat' (first
      | (refine And.intro ?_ ?_ <;> try conv => whnf)
      | (intro hh; first | (cases hh; done) | conv => whnf))
    all_goals try first | rfl | kernel_rfl
    all_goals try simp only [decide_eq_true_eq, decide_eq_false_iff_not] at *
    all_goals try simp only [Key_eta, Share_eta, Journey_eta, Batch_eta, FieldT_eta, OpB_eta, Product_eta, Key_beq, Share_beq, Journey_beq, FieldT_beq, Product_beq, toNat0, toNat1, toNat2, toNat3, toNat4, toNat5, toNat6, toNat7, toNat8, toNat9, toNat10, toNat11, toNat12, toNat13, toNat14, toNat15, toNat16, toNat17, toNat18, toNat19, iA, iOf, atS, rwA, castK, zK, true_and, and_true, decide_eq_true_eq, decide_eq_false_iff_not, beq_iff_eq, bne_iff_ne, beq_eq_false_iff_ne, bne_eq_false_iff_eq, Bool.not_eq_true', Bool.not_eq_false', Bool.not_eq_true, Bool.not_eq_false, Nat.succ_eq_add_one, Int.not_lt, Int.not_le, gt_iff_lt, ge_iff_le, show bytesS T_fareboxlaw13_FareCosts 24 = 8 from rfl, show bytesS T_fareboxlaw13_FareCosts 47 = 24 from rfl] at *
    all_goals try (exact Res.mk trivial)
    all_goals have hb := fareC_bounds ⟨c_base, c_step, c_cap⟩ f t
    all_goals have h2 := fareC_two ⟨c_base, c_step, c_cap⟩ f t
    all_goals have hi : (if c_cap < 0 then (0 : Int) else c_cap) = max c_cap 0 := by split <;> omega
    all_goals try simp only [cond_true, hi] at *
    all_goals first
      | exact absurd rfl ‹_ ≠ _›
      | exact absurd h2 ‹_ ≠ _›
      | (exfalso; omega)
      | (refine Res.mk ?_; rw [wrap64 (by omega) (by omega)]; exact fareC_far _ _ _ (by omega) (by omega) (by omega))
  · exact h.fail.elim

end Go.Proofs.Ytncdakkigkmfjaa.Sx
