import Derived.Test.YtncdakkigkmfjaaProg
import Derived.Test.YtncdakkigkmfjaaSxU
import Derived.IntWalk
import Derived.Test.YtncdakkigkmfjaaF4r
/-! fare, its laws -/
namespace Go.Proofs.Ytncdakkigkmfjaa.Sx
open Go
set_option linter.unusedVariables false
set_option linter.unusedSimpArgs false
set_option maxRecDepth 100000

def T_fare_Right : TT := [(3, ⟨.int .i64, 1, 8, [.int .i64 0], some .int⟩),
  (4, ⟨.bool, 1, 1, [.bool false], some .bool⟩),
  (24, ⟨.slice 3, 1, 24, [.slice none 0 0], none⟩),
  (47, ⟨.slice 24, 1, 24, [.slice none 0 0], none⟩),
  (49, ⟨.strct [(0, 3), (1, 3), (2, 47), (3, 3), (4, 3), (5, 3), (6, 3)], 7, 72, [.int .i64 0, .int .i64 0, .slice none 0 0, .int .i64 0, .int .i64 0, .int .i64 0, .int .i64 0], none⟩)]
theorem tOk_fare_Right : TOk Try.prog T_fare_Right := tOk_of (by kernel_rfl)
def sp_fare_Right : Spec := fun args hp => match args, hp with
  | [.agg [.val (.int .i64 c_ops), .val (.int .i64 c_cards), .val (.slice c_acc_a c_acc_l c_acc_c), .val (.int .i64 c_base), .val (.int .i64 c_step), .val (.int .i64 c_cap), .val (.int .i64 c_disk)]], [] => .ok (bv (rightC (⟨c_base, c_step, c_cap⟩ : Config))) []
  | _, _ => .fail "fare_Right"
abbrev k_fare_Right : List (Option RK) := [none]
def a_fare_Right : List SV → List (Nat × VB) → Anns := fun _ _ => []
set_option maxHeartbeats 20000000 in
theorem ok_fare_Right : GOk Try.prog 31 (lift k_fare_Right sp_fare_Right) := by
  refine pf_ok (T := T_fare_Right) (Γ := (63, lift k_fare_in sp_fare_in) :: []) tOk_fare_Right (gOks_cons ok_fare_in (gOks_nil _)) mixed Try.func31 (c := body Try.f31) (by kernel_rfl) (by kernel_rfl) k_fare_Right sp_fare_Right (by kernel_rfl) (by kernel_rfl) a_fare_Right ?_
  intro args hp s u hfit h
  unfold sp_fare_Right at h
  split at h
  · rename_i c_ops c_cards c_acc_a c_acc_l c_acc_c c_base c_step c_cap c_disk
    obtain ⟨rfl, rfl⟩ := h.ok
    clear h hfit
    conv => whnf
    repeat' (first
      | (refine And.intro ?_ ?_ <;> try conv => whnf)
      | (intro hh; first | (cases hh; done) | conv => whnf))
    all_goals try first | rfl | kernel_rfl
    all_goals try simp only [decide_eq_true_eq, decide_eq_false_iff_not] at *
    all_goals try simp only [Key_eta, Share_eta, Journey_eta, Batch_eta, FieldT_eta, OpB_eta, Product_eta, Key_beq, Share_beq, Journey_beq, FieldT_beq, Product_beq, toNat0, toNat1, toNat2, toNat3, toNat4, toNat5, toNat6, toNat7, toNat8, toNat9, toNat10, toNat11, toNat12, toNat13, toNat14, toNat15, toNat16, toNat17, toNat18, toNat19, iA, iOf, atS, rwA, castK, zK, true_and, and_true, decide_eq_true_eq, decide_eq_false_iff_not, beq_iff_eq, bne_iff_ne, beq_eq_false_iff_ne, bne_eq_false_iff_eq, Bool.not_eq_true', Bool.not_eq_false', Bool.not_eq_true, Bool.not_eq_false, Nat.succ_eq_add_one, Int.not_lt, Int.not_le, gt_iff_lt, ge_iff_le, show bytesS T_fare_Right 24 = 8 from rfl, show bytesS T_fare_Right 47 = 24 from rfl] at *
    all_goals first
      | (refine Vc.mk ?_; simp; done)
      | exact Res.mk rfl
  · exact h.fail.elim

def T_fare_Fare : TT := [(3, ⟨.int .i64, 1, 8, [.int .i64 0], some .int⟩),
  (4, ⟨.bool, 1, 1, [.bool false], some .bool⟩),
  (24, ⟨.slice 3, 1, 24, [.slice none 0 0], none⟩),
  (47, ⟨.slice 24, 1, 24, [.slice none 0 0], none⟩),
  (49, ⟨.strct [(0, 3), (1, 3), (2, 47), (3, 3), (4, 3), (5, 3), (6, 3)], 7, 72, [.int .i64 0, .int .i64 0, .slice none 0 0, .int .i64 0, .int .i64 0, .int .i64 0, .int .i64 0], none⟩)]
theorem tOk_fare_Fare : TOk Try.prog T_fare_Fare := tOk_of (by kernel_rfl)
def sp_fare_Fare : Spec := fun args hp => match args, hp with
  | [.agg [.val (.int .i64 c_ops), .val (.int .i64 c_cards), .val (.slice c_acc_a c_acc_l c_acc_c), .val (.int .i64 c_base), .val (.int .i64 c_step), .val (.int .i64 c_cap), .val (.int .i64 c_disk)], .val (.int .i64 frm), .val (.int .i64 to)], [] => .ok (iv (fareC (⟨c_base, c_step, c_cap⟩ : Config) frm to)) []
  | _, _ => .fail "fare_Fare"
abbrev k_fare_Fare : List (Option RK) := [none, none, none]
def a_fare_Fare : List SV → List (Nat × VB) → Anns := fun _ _ => []
set_option maxHeartbeats 20000000 in
theorem ok_fare_Fare : GOk Try.prog 30 (lift k_fare_Fare sp_fare_Fare) := by
  refine pf_ok (T := T_fare_Fare) (Γ := (31, lift k_fare_Right sp_fare_Right) :: (63, lift k_fare_in sp_fare_in) :: []) tOk_fare_Fare (gOks_cons ok_fare_Right (gOks_cons ok_fare_in (gOks_nil _))) mixed Try.func30 (c := body Try.f30) (by kernel_rfl) (by kernel_rfl) k_fare_Fare sp_fare_Fare (by kernel_rfl) (by kernel_rfl) a_fare_Fare ?_
  intro args hp s u hfit h
  unfold sp_fare_Fare at h
  split at h
  · rename_i c_ops c_cards c_acc_a c_acc_l c_acc_c c_base c_step c_cap c_disk frm to
    obtain ⟨rfl, rfl⟩ := h.ok
    clear h hfit
    conv => whnf
    repeat' (first
      | (refine And.intro ?_ ?_ <;> try conv => whnf)
      | (intro hh; first | (cases hh; done) | conv => whnf))
    all_goals try first | rfl | kernel_rfl
    all_goals try simp only [decide_eq_true_eq, decide_eq_false_iff_not] at *
    all_goals try simp only [Key_eta, Share_eta, Journey_eta, Batch_eta, FieldT_eta, OpB_eta, Product_eta, Key_beq, Share_beq, Journey_beq, FieldT_beq, Product_beq, toNat0, toNat1, toNat2, toNat3, toNat4, toNat5, toNat6, toNat7, toNat8, toNat9, toNat10, toNat11, toNat12, toNat13, toNat14, toNat15, toNat16, toNat17, toNat18, toNat19, iA, iOf, atS, rwA, castK, zK, true_and, and_true, decide_eq_true_eq, decide_eq_false_iff_not, beq_iff_eq, bne_iff_ne, beq_eq_false_iff_ne, bne_eq_false_iff_eq, Bool.not_eq_true', Bool.not_eq_false', Bool.not_eq_true, Bool.not_eq_false, Nat.succ_eq_add_one, Int.not_lt, Int.not_le, gt_iff_lt, ge_iff_le, show bytesS T_fare_Fare 24 = 8 from rfl, show bytesS T_fare_Fare 47 = 24 from rfl] at *
    · exact Res.mk (by simp [fareC, *])
    · exact Vc.mk (by simp)
    · exact Res.mk (by simp [fareC, *])
    · have h1 := (rightC_iff _).1 ‹rightC _ = true›
      have h2 := (in2_iff _ _).1 ‹inR 0 255 _ = true›
      try simp only at h1
      have hm := fare_mul (a := c_step) (b := max (frm - to) (to - frm)) (by omega) (by omega) (by omega) (by omega)
      refine Res.mk ?_
      rw [fareC_ok ‹rightC _ = true› ‹inR 0 255 _ = true›]
      simp only [cond_true, cond_false]
      rw [wrap64 (n := frm - to) (by omega) (by omega), wrap64 (n := to - frm) (by omega) (by omega)]
      rw [show (if frm - to < to - frm then to - frm else frm - to) = max (frm - to) (to - frm) by split <;> omega]
      rw [wrap64 (n := c_step * _) (by omega) (by omega), wrap64 (by omega) (by omega)]
      split <;> omega
  · exact h.fail.elim

def T_fare_Flat : TT := [(3, ⟨.int .i64, 1, 8, [.int .i64 0], some .int⟩),
  (24, ⟨.slice 3, 1, 24, [.slice none 0 0], none⟩),
  (47, ⟨.slice 24, 1, 24, [.slice none 0 0], none⟩),
  (49, ⟨.strct [(0, 3), (1, 3), (2, 47), (3, 3), (4, 3), (5, 3), (6, 3)], 7, 72, [.int .i64 0, .int .i64 0, .slice none 0 0, .int .i64 0, .int .i64 0, .int .i64 0, .int .i64 0], none⟩)]
theorem tOk_fare_Flat : TOk Try.prog T_fare_Flat := tOk_of (by kernel_rfl)
def sp_fare_Flat : Spec := fun args hp => match args, hp with
  | [.agg [.val (.int .i64 c_ops), .val (.int .i64 c_cards), .val (.slice c_acc_a c_acc_l c_acc_c), .val (.int .i64 c_base), .val (.int .i64 c_step), .val (.int .i64 c_cap), .val (.int .i64 c_disk)]], [] => .ok (iv (fareC (⟨c_base, c_step, c_cap⟩ : Config) 0 0)) []
  | _, _ => .fail "fare_Flat"
abbrev k_fare_Flat : List (Option RK) := [none]
def a_fare_Flat : List SV → List (Nat × VB) → Anns := fun _ _ => []
set_option maxHeartbeats 20000000 in
theorem ok_fare_Flat : GOk Try.prog 34 (lift k_fare_Flat sp_fare_Flat) := by
  refine pf_ok (T := T_fare_Flat) (Γ := (30, lift k_fare_Fare sp_fare_Fare) :: []) tOk_fare_Flat (gOks_cons ok_fare_Fare (gOks_nil _)) mixed Try.func34 (c := body Try.f34) (by kernel_rfl) (by kernel_rfl) k_fare_Flat sp_fare_Flat (by kernel_rfl) (by kernel_rfl) a_fare_Flat ?_
  intro args hp s u hfit h
  unfold sp_fare_Flat at h
  split at h
  · rename_i c_ops c_cards c_acc_a c_acc_l c_acc_c c_base c_step c_cap c_disk
    obtain ⟨rfl, rfl⟩ := h.ok
    clear h hfit
    conv => whnf
    repeat' (first
      | (refine And.intro ?_ ?_ <;> try conv => whnf)
      | (intro hh; first | (cases hh; done) | conv => whnf))
    all_goals try first | rfl | kernel_rfl
    all_goals try simp only [decide_eq_true_eq, decide_eq_false_iff_not] at *
    all_goals try simp only [Key_eta, Share_eta, Journey_eta, Batch_eta, FieldT_eta, OpB_eta, Product_eta, Key_beq, Share_beq, Journey_beq, FieldT_beq, Product_beq, toNat0, toNat1, toNat2, toNat3, toNat4, toNat5, toNat6, toNat7, toNat8, toNat9, toNat10, toNat11, toNat12, toNat13, toNat14, toNat15, toNat16, toNat17, toNat18, toNat19, iA, iOf, atS, rwA, castK, zK, true_and, and_true, decide_eq_true_eq, decide_eq_false_iff_not, beq_iff_eq, bne_iff_ne, beq_eq_false_iff_ne, bne_eq_false_iff_eq, Bool.not_eq_true', Bool.not_eq_false', Bool.not_eq_true, Bool.not_eq_false, Nat.succ_eq_add_one, Int.not_lt, Int.not_le, gt_iff_lt, ge_iff_le, show bytesS T_fare_Flat 24 = 8 from rfl, show bytesS T_fare_Flat 47 = 24 from rfl] at *
    all_goals exact Res.mk trivial
  · exact h.fail.elim

def T_fareboxlaw13_ride : TT := [(3, ⟨.int .i64, 1, 8, [.int .i64 0], some .int⟩),
  (40, ⟨.int .i64, 1, 8, [.int .i64 0], none⟩),
  (73, ⟨.strct [(0, 3), (1, 3), (2, 3), (3, 3), (4, 3), (5, 40), (6, 3), (7, 3), (8, 3), (9, 3)], 10, 80, [.int .i64 0, .int .i64 0, .int .i64 0, .int .i64 0, .int .i64 0, .int .i64 0, .int .i64 0, .int .i64 0, .int .i64 0, .int .i64 0], some .journey⟩)]
theorem tOk_fareboxlaw13_ride : TOk Try.prog T_fareboxlaw13_ride := tOk_of (by kernel_rfl)
def sp_fareboxlaw13_ride : Spec := fun args hp => match args, hp with
  | [], [] => .ok (svJourney rideJ) []
  | _, _ => .fail "fareboxlaw13_ride"
abbrev k_fareboxlaw13_ride : List (Option RK) := []
def a_fareboxlaw13_ride : List SV → List (Nat × VB) → Anns := fun _ _ => []
set_option maxHeartbeats 20000000 in
theorem ok_fareboxlaw13_ride : GOk Try.prog 62 (lift k_fareboxlaw13_ride sp_fareboxlaw13_ride) := by
  refine pf_ok (T := T_fareboxlaw13_ride) (Γ := []) tOk_fareboxlaw13_ride (gOks_nil _) mixed Try.func62 (c := body Try.f62) (by kernel_rfl) (by kernel_rfl) k_fareboxlaw13_ride sp_fareboxlaw13_ride (by kernel_rfl) (by kernel_rfl) a_fareboxlaw13_ride ?_
  intro args hp s u hfit h
  unfold sp_fareboxlaw13_ride at h
  split at h
  · skip
    obtain ⟨rfl, rfl⟩ := h.ok
    clear h hfit
    conv => whnf
    repeat' (first
      | (refine And.intro ?_ ?_ <;> try conv => whnf)
      | (intro hh; first | (cases hh; done) | conv => whnf))
    all_goals try first | rfl | kernel_rfl
    all_goals try simp only [decide_eq_true_eq, decide_eq_false_iff_not] at *
    all_goals try simp only [Key_eta, Share_eta, Journey_eta, Batch_eta, FieldT_eta, OpB_eta, Product_eta, Key_beq, Share_beq, Journey_beq, FieldT_beq, Product_beq, toNat0, toNat1, toNat2, toNat3, toNat4, toNat5, toNat6, toNat7, toNat8, toNat9, toNat10, toNat11, toNat12, toNat13, toNat14, toNat15, toNat16, toNat17, toNat18, toNat19, iA, iOf, atS, rwA, castK, zK, true_and, and_true, decide_eq_true_eq, decide_eq_false_iff_not, beq_iff_eq, bne_iff_ne, beq_eq_false_iff_ne, bne_eq_false_iff_eq, Bool.not_eq_true', Bool.not_eq_false', Bool.not_eq_true, Bool.not_eq_false, Nat.succ_eq_add_one, Int.not_lt, Int.not_le, gt_iff_lt, ge_iff_le] at *
    all_goals exact Res.mk (by simp [rideJ])
  · exact h.fail.elim

def T_fareboxlaw13_awake : TT := [(3, ⟨.int .i64, 1, 8, [.int .i64 0], some .int⟩),
  (4, ⟨.bool, 1, 1, [.bool false], some .bool⟩),
  (5, ⟨.int .u8, 1, 1, [.int .u8 0], some .u8⟩),
  (24, ⟨.slice 3, 1, 24, [.slice none 0 0], none⟩),
  (27, ⟨.int .i64, 1, 8, [.int .i64 0], none⟩),
  (40, ⟨.int .i64, 1, 8, [.int .i64 0], none⟩),
  (47, ⟨.slice 24, 1, 24, [.slice none 0 0], none⟩),
  (49, ⟨.strct [(0, 3), (1, 3), (2, 47), (3, 3), (4, 3), (5, 3), (6, 3)], 7, 72, [.int .i64 0, .int .i64 0, .slice none 0 0, .int .i64 0, .int .i64 0, .int .i64 0, .int .i64 0], none⟩),
  (54, ⟨.slice 73, 1, 24, [.slice none 0 0], none⟩),
  (56, ⟨.strct [(0, 3), (1, 3), (2, 54)], 3, 40, [.int .i64 0, .int .i64 0, .slice none 0 0], some .batch⟩),
  (57, ⟨.slice 5, 1, 24, [.slice none 0 0], none⟩),
  (73, ⟨.strct [(0, 3), (1, 3), (2, 3), (3, 3), (4, 3), (5, 40), (6, 3), (7, 3), (8, 3), (9, 3)], 10, 80, [.int .i64 0, .int .i64 0, .int .i64 0, .int .i64 0, .int .i64 0, .int .i64 0, .int .i64 0, .int .i64 0, .int .i64 0, .int .i64 0], some .journey⟩)]
theorem tOk_fareboxlaw13_awake : TOk Try.prog T_fareboxlaw13_awake := tOk_of (by kernel_rfl)
def sp_fareboxlaw13_awake : Spec := fun args hp => match args, hp with
  | [], [] => .ok (bv true) []
  | _, _ => .fail "fareboxlaw13_awake"
abbrev k_fareboxlaw13_awake : List (Option RK) := []
def a_fareboxlaw13_awake : List SV → List (Nat × VB) → Anns := fun _ _ => []
set_option maxHeartbeats 20000000 in
theorem ok_fareboxlaw13_awake : GOk Try.prog 29 (lift k_fareboxlaw13_awake sp_fareboxlaw13_awake) := by
  refine pf_ok (T := T_fareboxlaw13_awake) (Γ := (62, lift k_fareboxlaw13_ride sp_fareboxlaw13_ride) :: (35, lift k_fare_PutBatch sp_fare_PutBatch) :: (37, lift k_fare_GetBatch sp_fare_GetBatch) :: (30, lift k_fare_Fare sp_fare_Fare) :: (34, lift k_fare_Flat sp_fare_Flat) :: []) tOk_fareboxlaw13_awake (gOks_cons ok_fareboxlaw13_ride (gOks_cons ok_fare_PutBatch (gOks_cons ok_fare_GetBatch (gOks_cons ok_fare_Fare (gOks_cons ok_fare_Flat (gOks_nil _)))))) mixed Try.func29 (c := body Try.f29) (by kernel_rfl) (by kernel_rfl) k_fareboxlaw13_awake sp_fareboxlaw13_awake (by kernel_rfl) (by kernel_rfl) a_fareboxlaw13_awake ?_
  intro args hp s u hfit h
  unfold sp_fareboxlaw13_awake at h
  split at h
  · skip
    obtain ⟨rfl, rfl⟩ := h.ok
    clear h hfit
    conv => whnf
    repeat' (first
      | (refine And.intro ?_ ?_ <;> try conv => whnf)
      | (intro hh; first | (cases hh; done) | conv => whnf))
    all_goals try first | rfl | kernel_rfl
    all_goals try simp only [decide_eq_true_eq, decide_eq_false_iff_not] at *
    all_goals try simp only [Key_eta, Share_eta, Journey_eta, Batch_eta, FieldT_eta, OpB_eta, Product_eta, Key_beq, Share_beq, Journey_beq, FieldT_beq, Product_beq, toNat0, toNat1, toNat2, toNat3, toNat4, toNat5, toNat6, toNat7, toNat8, toNat9, toNat10, toNat11, toNat12, toNat13, toNat14, toNat15, toNat16, toNat17, toNat18, toNat19, iA, iOf, atS, rwA, castK, zK, true_and, and_true, decide_eq_true_eq, decide_eq_false_iff_not, beq_iff_eq, bne_iff_ne, beq_eq_false_iff_ne, bne_eq_false_iff_eq, Bool.not_eq_true', Bool.not_eq_false', Bool.not_eq_true, Bool.not_eq_false, Nat.succ_eq_add_one, Int.not_lt, Int.not_le, gt_iff_lt, ge_iff_le, show bytesS T_fareboxlaw13_awake 24 = 8 from rfl, show bytesS T_fareboxlaw13_awake 47 = 24 from rfl, show bytesS T_fareboxlaw13_awake 54 = 80 from rfl, show bytesS T_fareboxlaw13_awake 57 = 1 from rfl] at *
    · exact Vc.mk (by simp)
    · exact Vc.mk ⟨putBB_isB _, by rw [ride4]; decide⟩
    all_goals rw [ride3]
    · exact Vc.mk (by simp)
    · exact Vc.mk (by simp)
    · exact Res.mk rfl
  · exact h.fail.elim

def T_fareboxlaw13_FareTotals : TT := [(3, ⟨.int .i64, 1, 8, [.int .i64 0], some .int⟩),
  (4, ⟨.bool, 1, 1, [.bool false], some .bool⟩),
  (5, ⟨.int .u8, 1, 1, [.int .u8 0], some .u8⟩),
  (9, ⟨.str, 1, 16, [.string .empty], some .str⟩),
  (27, ⟨.int .i64, 1, 8, [.int .i64 0], none⟩),
  (40, ⟨.int .i64, 1, 8, [.int .i64 0], none⟩),
  (54, ⟨.slice 73, 1, 24, [.slice none 0 0], none⟩),
  (57, ⟨.slice 5, 1, 24, [.slice none 0 0], none⟩),
  (73, ⟨.strct [(0, 3), (1, 3), (2, 3), (3, 3), (4, 3), (5, 40), (6, 3), (7, 3), (8, 3), (9, 3)], 10, 80, [.int .i64 0, .int .i64 0, .int .i64 0, .int .i64 0, .int .i64 0, .int .i64 0, .int .i64 0, .int .i64 0, .int .i64 0, .int .i64 0], some .journey⟩)]
theorem tOk_fareboxlaw13_FareTotals : TOk Try.prog T_fareboxlaw13_FareTotals := tOk_of (by kernel_rfl)
def sp_fareboxlaw13_FareTotals : Spec := fun args hp => match args, hp with
  | [.slF 0, .slF 1], [(0, .row o_a .journey a), (1, .row o_b .journey b)] => .vc (a.length ≤ 1048576 ∧ b.length ≤ 1048576) (bv true) []
  | _, _ => .fail "fareboxlaw13_FareTotals"
abbrev k_fareboxlaw13_FareTotals : List (Option RK) := [some .journey, some .journey]
def a_fareboxlaw13_FareTotals : List SV → List (Nat × VB) → Anns := fun _ _ => []
set_option maxHeartbeats 20000000 in
theorem ok_fareboxlaw13_FareTotals : GOk Try.prog 13 (lift k_fareboxlaw13_FareTotals sp_fareboxlaw13_FareTotals) := by
  refine pf_ok (T := T_fareboxlaw13_FareTotals) (Γ := (29, lift k_fareboxlaw13_awake sp_fareboxlaw13_awake) :: (52, lift k_fare_Put sp_fare_Put) :: (53, lift k_fare_Total sp_fare_Total) :: []) tOk_fareboxlaw13_FareTotals (gOks_cons ok_fareboxlaw13_awake (gOks_cons ok_fare_Put (gOks_cons ok_fare_Total (gOks_nil _)))) mixed Try.func13 (c := body Try.f13) (by kernel_rfl) (by kernel_rfl) k_fareboxlaw13_FareTotals sp_fareboxlaw13_FareTotals (by kernel_rfl) (by kernel_rfl) a_fareboxlaw13_FareTotals ?_
  intro args hp s u hfit h
  unfold sp_fareboxlaw13_FareTotals at h
  split at h
  · rename_i o_a a o_b b
    obtain ⟨hvc, rfl, rfl⟩ := h.vc
    clear h hfit
    change List Journey at a
    change List Journey at b
    conv => whnf
    repeat' (first
      | (refine And.intro ?_ ?_ <;> try conv => whnf)
      | (intro hh; first | (cases hh; done) | conv => whnf))
    all_goals try first | rfl | kernel_rfl
    all_goals try simp only [decide_eq_true_eq, decide_eq_false_iff_not] at *
    all_goals try simp only [Key_eta, Share_eta, Journey_eta, Batch_eta, FieldT_eta, OpB_eta, Product_eta, Key_beq, Share_beq, Journey_beq, FieldT_beq, Product_beq, toNat0, toNat1, toNat2, toNat3, toNat4, toNat5, toNat6, toNat7, toNat8, toNat9, toNat10, toNat11, toNat12, toNat13, toNat14, toNat15, toNat16, toNat17, toNat18, toNat19, iA, iOf, atS, rwA, castK, zK, true_and, and_true, decide_eq_true_eq, decide_eq_false_iff_not, beq_iff_eq, bne_iff_ne, beq_eq_false_iff_ne, bne_eq_false_iff_eq, Bool.not_eq_true', Bool.not_eq_false', Bool.not_eq_true, Bool.not_eq_false, Nat.succ_eq_add_one, Int.not_lt, Int.not_le, gt_iff_lt, ge_iff_le, show bytesS T_fareboxlaw13_FareTotals 54 = 80 from rfl, show bytesS T_fareboxlaw13_FareTotals 57 = 1 from rfl] at *
    all_goals obtain ⟨hla, hlb⟩ := hvc
    all_goals try simp only [List.nil_append] at *
    all_goals have t1 := totV_le a
    all_goals have t2 := totV_le b
    all_goals have f1 := form_length a
    all_goals have f2 := form_length b
    all_goals have t3 := totV_append' a b
    all_goals cases ha : good a <;> cases hb : good b
    all_goals try simp only [putJE, totE, putJ, good_append, ha, hb, Bool.and_true, Bool.true_and, Bool.and_false, Bool.false_and, if_true, if_false, Bool.false_eq_true, form_append, bytesStr_append, bytesStr_size, List.length_append, List.length_nil] at *
    all_goals try (exact Res.mk trivial)
    all_goals try (refine Vc.mk ?_; omega)
    all_goals try (exact absurd rfl ‹(0 : Int) ≠ 0›)
    all_goals try (exact absurd rfl ‹(2 : Int) ≠ 2›)
    all_goals try (exact absurd rfl ‹_ ≠ _›)
    all_goals first
      | (exfalso; omega)
      | (refine Res.mk ?_; omega)
      | (refine Res.mk ?_; rw [t3, wrap64 (by omega) (by omega)])
  · exact h.fail.elim

def T_fareboxlaw13_FareJourneys : TT := [(3, ⟨.int .i64, 1, 8, [.int .i64 0], some .int⟩),
  (4, ⟨.bool, 1, 1, [.bool false], some .bool⟩),
  (5, ⟨.int .u8, 1, 1, [.int .u8 0], some .u8⟩),
  (9, ⟨.str, 1, 16, [.string .empty], some .str⟩),
  (27, ⟨.int .i64, 1, 8, [.int .i64 0], none⟩),
  (40, ⟨.int .i64, 1, 8, [.int .i64 0], none⟩),
  (54, ⟨.slice 73, 1, 24, [.slice none 0 0], none⟩),
  (57, ⟨.slice 5, 1, 24, [.slice none 0 0], none⟩),
  (73, ⟨.strct [(0, 3), (1, 3), (2, 3), (3, 3), (4, 3), (5, 40), (6, 3), (7, 3), (8, 3), (9, 3)], 10, 80, [.int .i64 0, .int .i64 0, .int .i64 0, .int .i64 0, .int .i64 0, .int .i64 0, .int .i64 0, .int .i64 0, .int .i64 0, .int .i64 0], some .journey⟩)]
theorem tOk_fareboxlaw13_FareJourneys : TOk Try.prog T_fareboxlaw13_FareJourneys := tOk_of (by kernel_rfl)
def sp_fareboxlaw13_FareJourneys : Spec := fun args hp => match args, hp with
  | [.slF 0, .slF 1], [(0, .row o_js .journey js), (1, .row o_b .u8 b)] => .vc (js.length ≤ 1048576 ∧ b.length ≤ 1048576 ∧ isB b) (bv true) []
  | _, _ => .fail "fareboxlaw13_FareJourneys"
abbrev k_fareboxlaw13_FareJourneys : List (Option RK) := [some .journey, some .u8]
def a_fareboxlaw13_FareJourneys : List SV → List (Nat × VB) → Anns := fun args hp => match args, hp with
  | [.slF 0, .slF 1], [(0, .row o_js .journey js), (1, .row o_b .u8 b)] => [(7, fun S => .inv [] [] [] fun ids vs rs => { cars := [.i 8 .i64, .b 5, .r 6 true .u8, .i 7 .i64], inv := fun ((i, gd, want, sum, _) : Int × Bool × List Int × Int × Unit) => IFJ js i gd want sum, mu := fun ((i, gd, want, sum, _) : Int × Bool × List Int × Int × Unit) => js.length - i.toNat })]
  | _, _ => []
set_option maxHeartbeats 20000000 in
theorem ok_fareboxlaw13_FareJourneys : GOk Try.prog 12 (lift k_fareboxlaw13_FareJourneys sp_fareboxlaw13_FareJourneys) := by
  refine pf_ok (T := T_fareboxlaw13_FareJourneys) (Γ := (29, lift k_fareboxlaw13_awake sp_fareboxlaw13_awake) :: (50, lift k_fareboxref13_Good sp_fareboxref13_Good) :: (51, lift k_fareboxref13_Form sp_fareboxref13_Form) :: (52, lift k_fare_Put sp_fare_Put) :: (53, lift k_fare_Total sp_fare_Total) :: (54, lift k_fare_Good sp_fare_Good) :: (39, lift k_fareboxref13_Same sp_fareboxref13_Same) :: (55, lift k_fare_Get sp_fare_Get) :: (56, lift k_fareboxref13_Get sp_fareboxref13_Get) :: []) tOk_fareboxlaw13_FareJourneys (gOks_cons ok_fareboxlaw13_awake (gOks_cons ok_fareboxref13_Good (gOks_cons ok_fareboxref13_Form (gOks_cons ok_fare_Put (gOks_cons ok_fare_Total (gOks_cons ok_fare_Good (gOks_cons ok_fareboxref13_Same (gOks_cons ok_fare_Get (gOks_cons ok_fareboxref13_Get (gOks_nil _)))))))))) mixed Try.func12 (c := body Try.f12) (by kernel_rfl) (by kernel_rfl) k_fareboxlaw13_FareJourneys sp_fareboxlaw13_FareJourneys (by kernel_rfl) (by kernel_rfl) a_fareboxlaw13_FareJourneys ?_
  intro args hp s u hfit h
  unfold sp_fareboxlaw13_FareJourneys at h
  split at h
  · rename_i o_js js o_b b
    obtain ⟨hvc, rfl, rfl⟩ := h.vc
    clear h hfit
    change List Journey at js
    change List Int at b
    conv => whnf
    repeat' (first
      | (refine And.intro ?_ ?_ <;> try conv => whnf)
      | (intro hh; first | (cases hh; done) | conv => whnf))
    all_goals try first | rfl | kernel_rfl
    all_goals try simp only [decide_eq_true_eq, decide_eq_false_iff_not] at *
    all_goals try simp only [Key_eta, Share_eta, Journey_eta, Batch_eta, FieldT_eta, OpB_eta, Product_eta, Key_beq, Share_beq, Journey_beq, FieldT_beq, Product_beq, toNat0, toNat1, toNat2, toNat3, toNat4, toNat5, toNat6, toNat7, toNat8, toNat9, toNat10, toNat11, toNat12, toNat13, toNat14, toNat15, toNat16, toNat17, toNat18, toNat19, iA, iOf, atS, rwA, castK, zK, true_and, and_true, decide_eq_true_eq, decide_eq_false_iff_not, beq_iff_eq, bne_iff_ne, beq_eq_false_iff_ne, bne_eq_false_iff_eq, Bool.not_eq_true', Bool.not_eq_false', Bool.not_eq_true, Bool.not_eq_false, Nat.succ_eq_add_one, Int.not_lt, Int.not_le, gt_iff_lt, ge_iff_le, show bytesS T_fareboxlaw13_FareJourneys 54 = 80 from rfl, show bytesS T_fareboxlaw13_FareJourneys 57 = 1 from rfl] at *
    all_goals obtain ⟨hL, hLb, hB⟩ := hvc
    all_goals try (
      obtain ⟨j, hj, rfl, rfl, hw, hl⟩ := ‹IFJ _ _ _ _ _›)
    all_goals (try simp only [List.nil_append, Int.toNat_natCast] at *)
    all_goals try (exact Res.mk trivial)
    all_goals try (refine Vc.mk ?_; omega)
    all_goals have hp1 := putJ_length js
    all_goals have hp2 := getJ_length b
    all_goals have hp3 := getJ_length (putJ js)
    all_goals have hp4 := putJ_isB js
    all_goals try (exact Vc.mk ‹_›)
    all_goals try (exact Vc.mk ⟨by omega, by omega⟩)
    all_goals try (refine Vc.mk ?_; omega)
    all_goals try (exact Vc.mk ⟨hB, by omega⟩)
    all_goals try (exact Vc.mk ⟨hp4, by omega⟩)
    · exact ⟨⟨0, Nat.zero_le _, rfl, rfl, fun _ => ⟨rfl, rfl⟩, by simp⟩⟩
    · exact Vc.mk (by rw [formJ_length]; omega)
    · exact ⟨ifj_good (by omega) hL ‹good (js.take j) = true› ‹goodJ _ = true› hw hl, by rw [wrap64] <;> omega⟩
    · have hx := ‹goodJ _ = false›
      rw [hx]
      exact ⟨ifj_bad (by omega) hL (.inr hx) hl, by rw [wrap64] <;> omega⟩
    · exact ⟨ifj_bad (by omega) hL (.inl ‹good (js.take j) = false›) hl, by rw [wrap64] <;> omega⟩
    all_goals (
      obtain rfl : j = js.length
      · omega
      rw [List.take_length] at *)
    all_goals try (refine Vc.mk ?_; simp only [List.length_nil]; omega)
    all_goals have g1 := form_getJ hB
    all_goals have g2 : putJ (getJ b) = form (getJ b) := by unfold putJ; rw [if_pos g1.1]
    all_goals have g3 : putJE (getJ b) = 0 := by unfold putJE; rw [if_pos g1.1]
    all_goals refine Res.mk ?_
    all_goals (
      cases hg : good js
      · first
        | (exfalso; simp_all [putJE, putJ, totE, totV]; done)
        | (simp_all [putJE, putJ, totE, totV]; done)
        | (trace_state; sorry)
      · obtain ⟨hw1, hw2⟩ := hw hg
        obtain ⟨k1, k2⟩ := getJ_form hg
        first
        | (exfalso; simp_all [putJE, putJ, totE, totV]; done)
        | (simp_all [putJE, putJ, totE, totV]; done)
        | (trace_state; sorry))
  · exact h.fail.elim

end Go.Proofs.Ytncdakkigkmfjaa.Sx
