import Derived.Test.YthbmllekbbfobaaProg
import Derived.Test.YthbmllekbbfobaaSxU
import Derived.IntWalk
import Derived.Test.YthbmllekbbfobaaI11r
/-! ipe, Body -/
namespace Go.Proofs.Ythbmllekbbfobaa.Sx
open Go
set_option linter.unusedVariables false
set_option linter.unusedSimpArgs false
set_option maxRecDepth 100000

def T_fareboxref04_NumS0 : TT := [(3, ⟨.int .i64, 1, 8, [.int .i64 0], some .int⟩),
  (4, ⟨.bool, 1, 1, [.bool false], some .bool⟩),
  (5, ⟨.int .u8, 1, 1, [.int .u8 0], some .u8⟩),
  (25, ⟨.slice 5, 1, 24, [.slice none 0 0], none⟩)]
theorem tOk_fareboxref04_NumS0 : TOk Try.prog T_fareboxref04_NumS0 := tOk_of (by kernel_rfl)
def sp_fareboxref04_NumS0 : Spec := fun args hp => match args, hp with
  | [.val (.int .i64 n)], [] => .vc (n < 1) (.slF 2000) [(2000, some (.row true .u8 (numB n)))]
  | _, _ => .fail "fareboxref04_NumS0"
abbrev k_fareboxref04_NumS0 : List (Option RK) := [none]
def a_fareboxref04_NumS0 : List SV → List (Nat × VB) → Anns := fun _ _ => []
set_option maxHeartbeats 20000000 in
theorem ok_fareboxref04_NumS0 : GOk Try.prog 87 (lift k_fareboxref04_NumS0 sp_fareboxref04_NumS0) := by
  refine pf_ok (T := T_fareboxref04_NumS0) (Γ := []) tOk_fareboxref04_NumS0 (gOks_nil _) mixed Try.func87 (c := body Try.f87) (by kernel_rfl) (by kernel_rfl) k_fareboxref04_NumS0 sp_fareboxref04_NumS0 (by kernel_rfl) (by kernel_rfl) a_fareboxref04_NumS0 ?_
  intro args hp s u hfit h
  unfold sp_fareboxref04_NumS0 at h
  split at h
  · rename_i n
    obtain ⟨hvc, rfl, rfl⟩ := h.vc
    clear h hfit
    conv => whnf
    repeat' (first
      | (refine And.intro ?_ ?_ <;> try conv => whnf)
      | (intro hh; first | (cases hh; done) | conv => whnf))
    all_goals try first | rfl | kernel_rfl
    all_goals try simp only [decide_eq_true_eq, decide_eq_false_iff_not] at *
    all_goals try simp only [Key_eta, Share_eta, Journey_eta, Batch_eta, FieldT_eta, OpB_eta, Product_eta, Item_eta, Delta_eta, Elem_eta, Rule_eta, Do10_eta, Key_beq, Share_beq, Journey_beq, FieldT_beq, Product_beq, Item_beq, Do10_beq, toNat0, toNat1, toNat2, toNat3, toNat4, toNat5, toNat6, toNat7, toNat8, toNat9, toNat10, toNat11, toNat12, toNat13, toNat14, toNat15, toNat16, toNat17, toNat18, toNat19, iA, iOf, atS, rwA, castK, zK, true_and, and_true, decide_eq_true_eq, decide_eq_false_iff_not, beq_iff_eq, bne_iff_ne, beq_eq_false_iff_ne, bne_eq_false_iff_eq, Bool.not_eq_true', Bool.not_eq_false', Bool.not_eq_true, Bool.not_eq_false, Nat.succ_eq_add_one, Int.not_lt, Int.not_le, gt_iff_lt, ge_iff_le, show bytesS T_fareboxref04_NumS0 25 = 1 from rfl] at *
    all_goals try (
      have h0 : n ≤ 0 := ‹_›
      exact Res.mk (by rw [numB, leB_nil h0]; rfl))
    all_goals try (exact Vc.mk (by decide))
    all_goals try (exfalso; omega)
    all_goals have hn : 0 < n := by omega
    all_goals have e1 : n.tdiv 256 = n / 256 := Int.tdiv_eq_ediv_of_nonneg (by omega)
    all_goals have e2 : n.tmod 256 = n % 256 := Int.tmod_eq_emod_of_nonneg (by omega)
    all_goals have e3 : IntKind.i64.wrap (n / 256) = n / 256 := wrap64 (by omega) (by omega)
    all_goals try rw [e1, e3] at *
    all_goals have hl := numB_len (n := n / 256) (k := 7) (by simp only [Int.reducePow]; omega)
    all_goals try (refine Vc.mk ?_; first | omega | (simp only [List.length_cons, List.length_nil]; omega))
    all_goals (
      rw [e2, IntKind.wrap_u8, Int.emod_emod_of_dvd _ (Int.dvd_refl 256)]
      exact Res.mk (numB_step hn (by simp only [Int.reducePow]; omega)).symm)
  · exact h.fail.elim

def T_fareboxref04_NumS1 : TT := [(3, ⟨.int .i64, 1, 8, [.int .i64 0], some .int⟩),
  (4, ⟨.bool, 1, 1, [.bool false], some .bool⟩),
  (5, ⟨.int .u8, 1, 1, [.int .u8 0], some .u8⟩),
  (25, ⟨.slice 5, 1, 24, [.slice none 0 0], none⟩)]
theorem tOk_fareboxref04_NumS1 : TOk Try.prog T_fareboxref04_NumS1 := tOk_of (by kernel_rfl)
def sp_fareboxref04_NumS1 : Spec := fun args hp => match args, hp with
  | [.val (.int .i64 n)], [] => .vc (n < 256) (.slF 2000) [(2000, some (.row true .u8 (numB n)))]
  | _, _ => .fail "fareboxref04_NumS1"
abbrev k_fareboxref04_NumS1 : List (Option RK) := [none]
def a_fareboxref04_NumS1 : List SV → List (Nat × VB) → Anns := fun _ _ => []
set_option maxHeartbeats 20000000 in
theorem ok_fareboxref04_NumS1 : GOk Try.prog 87 (lift k_fareboxref04_NumS1 sp_fareboxref04_NumS1) := by
  refine pf_ok (T := T_fareboxref04_NumS1) (Γ := (87, lift k_fareboxref04_NumS0 sp_fareboxref04_NumS0) :: []) tOk_fareboxref04_NumS1 (gOks_cons ok_fareboxref04_NumS0 (gOks_nil _)) mixed Try.func87 (c := body Try.f87) (by kernel_rfl) (by kernel_rfl) k_fareboxref04_NumS1 sp_fareboxref04_NumS1 (by kernel_rfl) (by kernel_rfl) a_fareboxref04_NumS1 ?_
  intro args hp s u hfit h
  unfold sp_fareboxref04_NumS1 at h
  split at h
  · rename_i n
    obtain ⟨hvc, rfl, rfl⟩ := h.vc
    clear h hfit
    conv => whnf
    repeat' (first
      | (refine And.intro ?_ ?_ <;> try conv => whnf)
      | (intro hh; first | (cases hh; done) | conv => whnf))
    all_goals try first | rfl | kernel_rfl
    all_goals try simp only [decide_eq_true_eq, decide_eq_false_iff_not] at *
    all_goals try simp only [Key_eta, Share_eta, Journey_eta, Batch_eta, FieldT_eta, OpB_eta, Product_eta, Item_eta, Delta_eta, Elem_eta, Rule_eta, Do10_eta, Key_beq, Share_beq, Journey_beq, FieldT_beq, Product_beq, Item_beq, Do10_beq, toNat0, toNat1, toNat2, toNat3, toNat4, toNat5, toNat6, toNat7, toNat8, toNat9, toNat10, toNat11, toNat12, toNat13, toNat14, toNat15, toNat16, toNat17, toNat18, toNat19, iA, iOf, atS, rwA, castK, zK, true_and, and_true, decide_eq_true_eq, decide_eq_false_iff_not, beq_iff_eq, bne_iff_ne, beq_eq_false_iff_ne, bne_eq_false_iff_eq, Bool.not_eq_true', Bool.not_eq_false', Bool.not_eq_true, Bool.not_eq_false, Nat.succ_eq_add_one, Int.not_lt, Int.not_le, gt_iff_lt, ge_iff_le, show bytesS T_fareboxref04_NumS1 25 = 1 from rfl] at *
    all_goals try (
      have h0 : n ≤ 0 := ‹_›
      exact Res.mk (by rw [numB, leB_nil h0]; rfl))
    all_goals try (exact Vc.mk (by decide))
    all_goals try (exfalso; omega)
    all_goals have hn : 0 < n := by omega
    all_goals have e1 : n.tdiv 256 = n / 256 := Int.tdiv_eq_ediv_of_nonneg (by omega)
    all_goals have e2 : n.tmod 256 = n % 256 := Int.tmod_eq_emod_of_nonneg (by omega)
    all_goals have e3 : IntKind.i64.wrap (n / 256) = n / 256 := wrap64 (by omega) (by omega)
    all_goals try rw [e1, e3] at *
    all_goals have hl := numB_len (n := n / 256) (k := 7) (by simp only [Int.reducePow]; omega)
    all_goals try (refine Vc.mk ?_; first | omega | (simp only [List.length_cons, List.length_nil]; omega))
    all_goals (
      rw [e2, IntKind.wrap_u8, Int.emod_emod_of_dvd _ (Int.dvd_refl 256)]
      exact Res.mk (numB_step hn (by simp only [Int.reducePow]; omega)).symm)
  · exact h.fail.elim

def T_fareboxref04_NumS2 : TT := [(3, ⟨.int .i64, 1, 8, [.int .i64 0], some .int⟩),
  (4, ⟨.bool, 1, 1, [.bool false], some .bool⟩),
  (5, ⟨.int .u8, 1, 1, [.int .u8 0], some .u8⟩),
  (25, ⟨.slice 5, 1, 24, [.slice none 0 0], none⟩)]
theorem tOk_fareboxref04_NumS2 : TOk Try.prog T_fareboxref04_NumS2 := tOk_of (by kernel_rfl)
def sp_fareboxref04_NumS2 : Spec := fun args hp => match args, hp with
  | [.val (.int .i64 n)], [] => .vc (n < 65536) (.slF 2000) [(2000, some (.row true .u8 (numB n)))]
  | _, _ => .fail "fareboxref04_NumS2"
abbrev k_fareboxref04_NumS2 : List (Option RK) := [none]
def a_fareboxref04_NumS2 : List SV → List (Nat × VB) → Anns := fun _ _ => []
set_option maxHeartbeats 20000000 in
theorem ok_fareboxref04_NumS2 : GOk Try.prog 87 (lift k_fareboxref04_NumS2 sp_fareboxref04_NumS2) := by
  refine pf_ok (T := T_fareboxref04_NumS2) (Γ := (87, lift k_fareboxref04_NumS1 sp_fareboxref04_NumS1) :: []) tOk_fareboxref04_NumS2 (gOks_cons ok_fareboxref04_NumS1 (gOks_nil _)) mixed Try.func87 (c := body Try.f87) (by kernel_rfl) (by kernel_rfl) k_fareboxref04_NumS2 sp_fareboxref04_NumS2 (by kernel_rfl) (by kernel_rfl) a_fareboxref04_NumS2 ?_
  intro args hp s u hfit h
  unfold sp_fareboxref04_NumS2 at h
  split at h
  · rename_i n
    obtain ⟨hvc, rfl, rfl⟩ := h.vc
    clear h hfit
    conv => whnf
    repeat' (first
      | (refine And.intro ?_ ?_ <;> try conv => whnf)
      | (intro hh; first | (cases hh; done) | conv => whnf))
    all_goals try first | rfl | kernel_rfl
    all_goals try simp only [decide_eq_true_eq, decide_eq_false_iff_not] at *
    all_goals try simp only [Key_eta, Share_eta, Journey_eta, Batch_eta, FieldT_eta, OpB_eta, Product_eta, Item_eta, Delta_eta, Elem_eta, Rule_eta, Do10_eta, Key_beq, Share_beq, Journey_beq, FieldT_beq, Product_beq, Item_beq, Do10_beq, toNat0, toNat1, toNat2, toNat3, toNat4, toNat5, toNat6, toNat7, toNat8, toNat9, toNat10, toNat11, toNat12, toNat13, toNat14, toNat15, toNat16, toNat17, toNat18, toNat19, iA, iOf, atS, rwA, castK, zK, true_and, and_true, decide_eq_true_eq, decide_eq_false_iff_not, beq_iff_eq, bne_iff_ne, beq_eq_false_iff_ne, bne_eq_false_iff_eq, Bool.not_eq_true', Bool.not_eq_false', Bool.not_eq_true, Bool.not_eq_false, Nat.succ_eq_add_one, Int.not_lt, Int.not_le, gt_iff_lt, ge_iff_le, show bytesS T_fareboxref04_NumS2 25 = 1 from rfl] at *
    all_goals try (
      have h0 : n ≤ 0 := ‹_›
      exact Res.mk (by rw [numB, leB_nil h0]; rfl))
    all_goals try (exact Vc.mk (by decide))
    all_goals try (exfalso; omega)
    all_goals have hn : 0 < n := by omega
    all_goals have e1 : n.tdiv 256 = n / 256 := Int.tdiv_eq_ediv_of_nonneg (by omega)
    all_goals have e2 : n.tmod 256 = n % 256 := Int.tmod_eq_emod_of_nonneg (by omega)
    all_goals have e3 : IntKind.i64.wrap (n / 256) = n / 256 := wrap64 (by omega) (by omega)
    all_goals try rw [e1, e3] at *
    all_goals have hl := numB_len (n := n / 256) (k := 7) (by simp only [Int.reducePow]; omega)
    all_goals try (refine Vc.mk ?_; first | omega | (simp only [List.length_cons, List.length_nil]; omega))
    all_goals (
      rw [e2, IntKind.wrap_u8, Int.emod_emod_of_dvd _ (Int.dvd_refl 256)]
      exact Res.mk (numB_step hn (by simp only [Int.reducePow]; omega)).symm)
  · exact h.fail.elim

def T_fareboxref04_NumS3 : TT := [(3, ⟨.int .i64, 1, 8, [.int .i64 0], some .int⟩),
  (4, ⟨.bool, 1, 1, [.bool false], some .bool⟩),
  (5, ⟨.int .u8, 1, 1, [.int .u8 0], some .u8⟩),
  (25, ⟨.slice 5, 1, 24, [.slice none 0 0], none⟩)]
theorem tOk_fareboxref04_NumS3 : TOk Try.prog T_fareboxref04_NumS3 := tOk_of (by kernel_rfl)
def sp_fareboxref04_NumS3 : Spec := fun args hp => match args, hp with
  | [.val (.int .i64 n)], [] => .vc (n < 16777216) (.slF 2000) [(2000, some (.row true .u8 (numB n)))]
  | _, _ => .fail "fareboxref04_NumS3"
abbrev k_fareboxref04_NumS3 : List (Option RK) := [none]
def a_fareboxref04_NumS3 : List SV → List (Nat × VB) → Anns := fun _ _ => []
set_option maxHeartbeats 20000000 in
theorem ok_fareboxref04_NumS3 : GOk Try.prog 87 (lift k_fareboxref04_NumS3 sp_fareboxref04_NumS3) := by
  refine pf_ok (T := T_fareboxref04_NumS3) (Γ := (87, lift k_fareboxref04_NumS2 sp_fareboxref04_NumS2) :: []) tOk_fareboxref04_NumS3 (gOks_cons ok_fareboxref04_NumS2 (gOks_nil _)) mixed Try.func87 (c := body Try.f87) (by kernel_rfl) (by kernel_rfl) k_fareboxref04_NumS3 sp_fareboxref04_NumS3 (by kernel_rfl) (by kernel_rfl) a_fareboxref04_NumS3 ?_
  intro args hp s u hfit h
  unfold sp_fareboxref04_NumS3 at h
  split at h
  · rename_i n
    obtain ⟨hvc, rfl, rfl⟩ := h.vc
    clear h hfit
    conv => whnf
    repeat' (first
      | (refine And.intro ?_ ?_ <;> try conv => whnf)
      | (intro hh; first | (cases hh; done) | conv => whnf))
    all_goals try first | rfl | kernel_rfl
    all_goals try simp only [decide_eq_true_eq, decide_eq_false_iff_not] at *
    all_goals try simp only [Key_eta, Share_eta, Journey_eta, Batch_eta, FieldT_eta, OpB_eta, Product_eta, Item_eta, Delta_eta, Elem_eta, Rule_eta, Do10_eta, Key_beq, Share_beq, Journey_beq, FieldT_beq, Product_beq, Item_beq, Do10_beq, toNat0, toNat1, toNat2, toNat3, toNat4, toNat5, toNat6, toNat7, toNat8, toNat9, toNat10, toNat11, toNat12, toNat13, toNat14, toNat15, toNat16, toNat17, toNat18, toNat19, iA, iOf, atS, rwA, castK, zK, true_and, and_true, decide_eq_true_eq, decide_eq_false_iff_not, beq_iff_eq, bne_iff_ne, beq_eq_false_iff_ne, bne_eq_false_iff_eq, Bool.not_eq_true', Bool.not_eq_false', Bool.not_eq_true, Bool.not_eq_false, Nat.succ_eq_add_one, Int.not_lt, Int.not_le, gt_iff_lt, ge_iff_le, show bytesS T_fareboxref04_NumS3 25 = 1 from rfl] at *
    all_goals try (
      have h0 : n ≤ 0 := ‹_›
      exact Res.mk (by rw [numB, leB_nil h0]; rfl))
    all_goals try (exact Vc.mk (by decide))
    all_goals try (exfalso; omega)
    all_goals have hn : 0 < n := by omega
    all_goals have e1 : n.tdiv 256 = n / 256 := Int.tdiv_eq_ediv_of_nonneg (by omega)
    all_goals have e2 : n.tmod 256 = n % 256 := Int.tmod_eq_emod_of_nonneg (by omega)
    all_goals have e3 : IntKind.i64.wrap (n / 256) = n / 256 := wrap64 (by omega) (by omega)
    all_goals try rw [e1, e3] at *
    all_goals have hl := numB_len (n := n / 256) (k := 7) (by simp only [Int.reducePow]; omega)
    all_goals try (refine Vc.mk ?_; first | omega | (simp only [List.length_cons, List.length_nil]; omega))
    all_goals (
      rw [e2, IntKind.wrap_u8, Int.emod_emod_of_dvd _ (Int.dvd_refl 256)]
      exact Res.mk (numB_step hn (by simp only [Int.reducePow]; omega)).symm)
  · exact h.fail.elim

def T_fareboxref04_NumS4 : TT := [(3, ⟨.int .i64, 1, 8, [.int .i64 0], some .int⟩),
  (4, ⟨.bool, 1, 1, [.bool false], some .bool⟩),
  (5, ⟨.int .u8, 1, 1, [.int .u8 0], some .u8⟩),
  (25, ⟨.slice 5, 1, 24, [.slice none 0 0], none⟩)]
theorem tOk_fareboxref04_NumS4 : TOk Try.prog T_fareboxref04_NumS4 := tOk_of (by kernel_rfl)
def sp_fareboxref04_NumS4 : Spec := fun args hp => match args, hp with
  | [.val (.int .i64 n)], [] => .vc (n < 4294967296) (.slF 2000) [(2000, some (.row true .u8 (numB n)))]
  | _, _ => .fail "fareboxref04_NumS4"
abbrev k_fareboxref04_NumS4 : List (Option RK) := [none]
def a_fareboxref04_NumS4 : List SV → List (Nat × VB) → Anns := fun _ _ => []
set_option maxHeartbeats 20000000 in
theorem ok_fareboxref04_NumS4 : GOk Try.prog 87 (lift k_fareboxref04_NumS4 sp_fareboxref04_NumS4) := by
  refine pf_ok (T := T_fareboxref04_NumS4) (Γ := (87, lift k_fareboxref04_NumS3 sp_fareboxref04_NumS3) :: []) tOk_fareboxref04_NumS4 (gOks_cons ok_fareboxref04_NumS3 (gOks_nil _)) mixed Try.func87 (c := body Try.f87) (by kernel_rfl) (by kernel_rfl) k_fareboxref04_NumS4 sp_fareboxref04_NumS4 (by kernel_rfl) (by kernel_rfl) a_fareboxref04_NumS4 ?_
  intro args hp s u hfit h
  unfold sp_fareboxref04_NumS4 at h
  split at h
  · rename_i n
    obtain ⟨hvc, rfl, rfl⟩ := h.vc
    clear h hfit
    conv => whnf
    repeat' (first
      | (refine And.intro ?_ ?_ <;> try conv => whnf)
      | (intro hh; first | (cases hh; done) | conv => whnf))
    all_goals try first | rfl | kernel_rfl
    all_goals try simp only [decide_eq_true_eq, decide_eq_false_iff_not] at *
    all_goals try simp only [Key_eta, Share_eta, Journey_eta, Batch_eta, FieldT_eta, OpB_eta, Product_eta, Item_eta, Delta_eta, Elem_eta, Rule_eta, Do10_eta, Key_beq, Share_beq, Journey_beq, FieldT_beq, Product_beq, Item_beq, Do10_beq, toNat0, toNat1, toNat2, toNat3, toNat4, toNat5, toNat6, toNat7, toNat8, toNat9, toNat10, toNat11, toNat12, toNat13, toNat14, toNat15, toNat16, toNat17, toNat18, toNat19, iA, iOf, atS, rwA, castK, zK, true_and, and_true, decide_eq_true_eq, decide_eq_false_iff_not, beq_iff_eq, bne_iff_ne, beq_eq_false_iff_ne, bne_eq_false_iff_eq, Bool.not_eq_true', Bool.not_eq_false', Bool.not_eq_true, Bool.not_eq_false, Nat.succ_eq_add_one, Int.not_lt, Int.not_le, gt_iff_lt, ge_iff_le, show bytesS T_fareboxref04_NumS4 25 = 1 from rfl] at *
    all_goals try (
      have h0 : n ≤ 0 := ‹_›
      exact Res.mk (by rw [numB, leB_nil h0]; rfl))
    all_goals try (exact Vc.mk (by decide))
    all_goals try (exfalso; omega)
    all_goals have hn : 0 < n := by omega
    all_goals have e1 : n.tdiv 256 = n / 256 := Int.tdiv_eq_ediv_of_nonneg (by omega)
    all_goals have e2 : n.tmod 256 = n % 256 := Int.tmod_eq_emod_of_nonneg (by omega)
    all_goals have e3 : IntKind.i64.wrap (n / 256) = n / 256 := wrap64 (by omega) (by omega)
    all_goals try rw [e1, e3] at *
    all_goals have hl := numB_len (n := n / 256) (k := 7) (by simp only [Int.reducePow]; omega)
    all_goals try (refine Vc.mk ?_; first | omega | (simp only [List.length_cons, List.length_nil]; omega))
    all_goals (
      rw [e2, IntKind.wrap_u8, Int.emod_emod_of_dvd _ (Int.dvd_refl 256)]
      exact Res.mk (numB_step hn (by simp only [Int.reducePow]; omega)).symm)
  · exact h.fail.elim

def T_fareboxref10_Form : TT := [(3, ⟨.int .i64, 1, 8, [.int .i64 0], some .int⟩),
  (4, ⟨.bool, 1, 1, [.bool false], some .bool⟩),
  (5, ⟨.int .u8, 1, 1, [.int .u8 0], some .u8⟩),
  (25, ⟨.slice 5, 1, 24, [.slice none 0 0], none⟩),
  (41, ⟨.slice 3, 1, 24, [.slice none 0 0], none⟩),
  (56, ⟨.int .i64, 1, 8, [.int .i64 0], some .int⟩),
  (58, ⟨.strct [(0, 56), (1, 3), (2, 3), (3, 3), (4, 3), (5, 3), (6, 3), (7, 3), (8, 4), (9, 3), (10, 3), (11, 3), (12, 3), (13, 4)], 14, 112, [.int .i64 0, .int .i64 0, .int .i64 0, .int .i64 0, .int .i64 0, .int .i64 0, .int .i64 0, .int .i64 0, .bool false, .int .i64 0, .int .i64 0, .int .i64 0, .int .i64 0, .bool false], some .product⟩)]
theorem tOk_fareboxref10_Form : TOk Try.prog T_fareboxref10_Form := tOk_of (by kernel_rfl)
def sp_fareboxref10_Form : Spec := fun args hp => match args, hp with
  | [.agg p_cs], [] => (match decS .product p_cs with
    | some p => .vc (rightP p = true) (.slF 2000) [(2000, some (.row true .u8 (formB p)))]
    | none => .fail "struct")
  | _, _ => .fail "fareboxref10_Form"
abbrev k_fareboxref10_Form : List (Option RK) := [none]
def a_fareboxref10_Form : List SV → List (Nat × VB) → Anns := fun args hp => match args, hp with
  | [.agg p_cs], [] => (match decS .product p_cs with
    | some p => [(4, fun S => .inv [] [] [] fun ids vs rs => { cars := [.i 5 .i64, .r 3 true .u8], inv := fun ((i, b, _) : Int × List Int × Unit) => IRfm p i b, mu := fun ((i, b, _) : Int × List Int × Unit) => 14 - i.toNat })]
    | none => [])
  | _, _ => []
set_option maxHeartbeats 20000000 in
theorem ok_fareboxref10_Form : GOk Try.prog 32 (lift k_fareboxref10_Form sp_fareboxref10_Form) := by
  refine pf_ok (T := T_fareboxref10_Form) (Γ := (84, lift k_fareboxref10_Numbers sp_fareboxref10_Numbers) :: (87, lift k_fareboxref04_NumS4 sp_fareboxref04_NumS4) :: []) tOk_fareboxref10_Form (gOks_cons ok_fareboxref10_Numbers (gOks_cons ok_fareboxref04_NumS4 (gOks_nil _))) mixed Try.func32 (c := body Try.f32) (by kernel_rfl) (by kernel_rfl) k_fareboxref10_Form sp_fareboxref10_Form (by kernel_rfl) (by kernel_rfl) a_fareboxref10_Form ?_
  intro args hp s u hfit h
  unfold sp_fareboxref10_Form at h
  split at h
  · rename_i p_cs
    split at h
    case h_2 => exact h.fail.elim
    rename_i p h_p
    obtain rfl := decS_ok (k := .product) rfl h_p
    clear h_p
    change Product at p
    obtain ⟨hvc, rfl, rfl⟩ := h.vc
    clear h hfit
    conv => whnf
    repeat' (first
      | (refine And.intro ?_ ?_ <;> try conv => whnf)
      | (intro hh; first | (cases hh; done) | conv => whnf))
    all_goals try first | rfl | kernel_rfl
    all_goals try simp only [decide_eq_true_eq, decide_eq_false_iff_not] at *
    all_goals try simp only [Key_eta, Share_eta, Journey_eta, Batch_eta, FieldT_eta, OpB_eta, Product_eta, Item_eta, Delta_eta, Elem_eta, Rule_eta, Do10_eta, Key_beq, Share_beq, Journey_beq, FieldT_beq, Product_beq, Item_beq, Do10_beq, toNat0, toNat1, toNat2, toNat3, toNat4, toNat5, toNat6, toNat7, toNat8, toNat9, toNat10, toNat11, toNat12, toNat13, toNat14, toNat15, toNat16, toNat17, toNat18, toNat19, iA, iOf, atS, rwA, castK, zK, true_and, and_true, decide_eq_true_eq, decide_eq_false_iff_not, beq_iff_eq, bne_iff_ne, beq_eq_false_iff_ne, bne_eq_false_iff_eq, Bool.not_eq_true', Bool.not_eq_false', Bool.not_eq_true, Bool.not_eq_false, Nat.succ_eq_add_one, Int.not_lt, Int.not_le, gt_iff_lt, ge_iff_le, show bytesS T_fareboxref10_Form 25 = 1 from rfl, show bytesS T_fareboxref10_Form 41 = 8 from rfl] at *
    all_goals have h14 : (numsP p).length = 14 := rfl
    all_goals try (
      have hex := ‹IRfm _ _ _›
      obtain ⟨j, hj, rfl, rfl⟩ := hex
      try simp only [Int.toNat_natCast] at *)
    all_goals try (refine Vc.mk ?_; omega)
    all_goals have hil : ∀ j : Nat, (innL 0 ((numsP p).take j)).length ≤ 51 := fun j => inn_take hvc j
    all_goals try (exact ⟨⟨0, by omega, rfl, rfl⟩⟩)
    all_goals have hi1 := hil j
    all_goals try (
      obtain rfl : j = 14
      · omega
      have hl := inn_len hvc
      rw [List.take_of_length_le (by omega)] at *
      first
        | (refine Vc.mk ?_; simp only [List.length_cons, List.length_nil]; omega)
        | (rw [wrapU8' (by omega) (by omega)]; exact Res.mk rfl))
    all_goals have hm : (numsP p).getD j 0 ∈ numsP p := mem_getD (by omega)
    all_goals have ho := right_okL hvc _ hm
    all_goals have hr4 := right_4 hvc hm
    all_goals have hnl := numB_len (n := (numsP p).getD j 0) (k := 7) ho.2
    all_goals try (refine Vc.mk ?_; first | omega | (simp only [List.length_append, List.length_cons, List.length_nil]; omega))
    all_goals refine ⟨⟨j + 1, by omega, by rw [wrap64] <;> omega, ?_⟩, by rw [wrap64] <;> omega⟩
    all_goals rw [take_getD (d := (0 : Int)) (by omega), innL_snoc, List.length_take, show min j (numsP p).length = j by omega, Int.zero_add, entL]
    · rw [if_pos ‹_›, List.append_nil]
    · rw [if_neg ‹_›, wrap64 (by omega) (by omega), wrapU8' (by omega) (by omega), wrapU8' (by omega) (by omega), List.append_assoc]; rfl
  · exact h.fail.elim

def T_slices_Grow_byte_byteP : TT := [(3, ⟨.int .i64, 1, 8, [.int .i64 0], some .int⟩),
  (4, ⟨.bool, 1, 1, [.bool false], some .bool⟩),
  (5, ⟨.int .u8, 1, 1, [.int .u8 0], some .u8⟩),
  (25, ⟨.slice 5, 1, 24, [.slice none 0 0], none⟩)]
theorem tOk_slices_Grow_byte_byteP : TOk Try.prog T_slices_Grow_byte_byteP := tOk_of (by kernel_rfl)
def sp_slices_Grow_byte_byteP : Spec := fun args hp => match args, hp with
  | [.val (.slice none 0 0), .val (.int .i64 n)], [] => .vc (0 < n ∧ n ≤ 2097152) (.slP 2000 0 0) [(2000, some (.row true .u8 (List.replicate n.toNat 0)))]
  | _, _ => .fail "slices_Grow_byte_byteP"
abbrev k_slices_Grow_byte_byteP : List (Option RK) := [none, none]
def a_slices_Grow_byte_byteP : List SV → List (Nat × VB) → Anns := fun _ _ => []
set_option maxHeartbeats 20000000 in
theorem ok_slices_Grow_byte_byteP : GOk Try.prog 129 (lift k_slices_Grow_byte_byteP sp_slices_Grow_byte_byteP) := by
  refine pf_ok (T := T_slices_Grow_byte_byteP) (Γ := []) tOk_slices_Grow_byte_byteP (gOks_nil _) mixed Try.func129 (c := body Try.f129) (by kernel_rfl) (by kernel_rfl) k_slices_Grow_byte_byteP sp_slices_Grow_byte_byteP (by kernel_rfl) (by kernel_rfl) a_slices_Grow_byte_byteP ?_
  intro args hp s u hfit h
  unfold sp_slices_Grow_byte_byteP at h
  split at h
  · rename_i n
    obtain ⟨hvc, rfl, rfl⟩ := h.vc
    clear h hfit
    conv => whnf
    repeat' (first
      | (refine And.intro ?_ ?_ <;> try conv => whnf)
      | (intro hh; first | (cases hh; done) | conv => whnf))
    all_goals try first | rfl | kernel_rfl
    all_goals try simp only [decide_eq_true_eq, decide_eq_false_iff_not] at *
    all_goals try simp only [Key_eta, Share_eta, Journey_eta, Batch_eta, FieldT_eta, OpB_eta, Product_eta, Item_eta, Delta_eta, Elem_eta, Rule_eta, Do10_eta, Key_beq, Share_beq, Journey_beq, FieldT_beq, Product_beq, Item_beq, Do10_beq, toNat0, toNat1, toNat2, toNat3, toNat4, toNat5, toNat6, toNat7, toNat8, toNat9, toNat10, toNat11, toNat12, toNat13, toNat14, toNat15, toNat16, toNat17, toNat18, toNat19, iA, iOf, atS, rwA, castK, zK, true_and, and_true, decide_eq_true_eq, decide_eq_false_iff_not, beq_iff_eq, bne_iff_ne, beq_eq_false_iff_ne, bne_eq_false_iff_eq, Bool.not_eq_true', Bool.not_eq_false', Bool.not_eq_true, Bool.not_eq_false, Nat.succ_eq_add_one, Int.not_lt, Int.not_le, gt_iff_lt, ge_iff_le, show bytesS T_slices_Grow_byte_byteP 25 = 1 from rfl] at *
    all_goals have hw : IntKind.i64.wrap (n - IntKind.i64.wrap (0 - 0)) = n := by rw [wrap64 (n := 0 - 0) (by omega) (by omega), wrap64 (by omega) (by omega)]; omega
    all_goals try (exfalso; omega)
    all_goals try rw [hw]
    all_goals first | exact Vc.mk (by decide) | (refine Vc.mk ?_; omega) | (refine Vc.mk ?_; simp; done) | exact Res.mk rfl
  · exact h.fail.elim

end Go.Proofs.Ythbmllekbbfobaa.Sx
