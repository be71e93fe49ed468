import Derived.Test.YtncdakkigkmfjaaProg
import Derived.Test.YtncdakkigkmfjaaSxU
import Derived.IntWalk
import Derived.Test.YtncdakkigkmfjaaF3r
/-! fareboxref13 -/
namespace Go.Proofs.Ytncdakkigkmfjaa.Sx
open Go
set_option linter.unusedVariables false
set_option linter.unusedSimpArgs false
set_option maxRecDepth 100000

def T_fareboxref13_Numbers : TT := [(3, ⟨.int .i64, 1, 8, [.int .i64 0], some .int⟩),
  (24, ⟨.slice 3, 1, 24, [.slice none 0 0], none⟩),
  (40, ⟨.int .i64, 1, 8, [.int .i64 0], none⟩),
  (73, ⟨.strct [(0, 3), (1, 3), (2, 3), (3, 3), (4, 3), (5, 40), (6, 3), (7, 3), (8, 3), (9, 3)], 10, 80, [.int .i64 0, .int .i64 0, .int .i64 0, .int .i64 0, .int .i64 0, .int .i64 0, .int .i64 0, .int .i64 0, .int .i64 0, .int .i64 0], some .journey⟩)]
theorem tOk_fareboxref13_Numbers : TOk Try.prog T_fareboxref13_Numbers := tOk_of (by kernel_rfl)
def sp_fareboxref13_Numbers : Spec := fun args hp => match args, hp with
  | [.agg j_cs], [] => (match decS .journey j_cs with
    | some j => .ok (.tup [.slF 2000, .slF 2001]) [(2000, some (.row true .int (numbersJ j))), (2001, some (.row true .int sizesL))]
    | none => .fail "struct")
  | _, _ => .fail "fareboxref13_Numbers"
abbrev k_fareboxref13_Numbers : List (Option RK) := [none]
def a_fareboxref13_Numbers : List SV → List (Nat × VB) → Anns := fun _ _ => []
set_option maxHeartbeats 20000000 in
theorem ok_fareboxref13_Numbers : GOk Try.prog 78 (lift k_fareboxref13_Numbers sp_fareboxref13_Numbers) := by
  refine pf_ok (T := T_fareboxref13_Numbers) (Γ := []) tOk_fareboxref13_Numbers (gOks_nil _) mixed Try.func78 (c := body Try.f78) (by kernel_rfl) (by kernel_rfl) k_fareboxref13_Numbers sp_fareboxref13_Numbers (by kernel_rfl) (by kernel_rfl) a_fareboxref13_Numbers ?_
  intro args hp s u hfit h
  unfold sp_fareboxref13_Numbers at h
  split at h
  · rename_i j_cs
    split at h
    case h_2 => exact h.fail.elim
    rename_i j h_j
    obtain rfl := decS_ok (k := .journey) rfl h_j
    clear h_j
    change Journey at j
    obtain ⟨rfl, rfl⟩ := h.ok
    clear h hfit
    conv => whnf
    repeat' (first
      | (refine And.intro ?_ ?_ <;> try conv => whnf)
      | (intro hh; first | (cases hh; done) | conv => whnf))
    all_goals try first | rfl | kernel_rfl
    all_goals try simp only [decide_eq_true_eq, decide_eq_false_iff_not] at *
    all_goals try simp only [Key_eta, Share_eta, Journey_eta, Batch_eta, FieldT_eta, OpB_eta, Product_eta, Key_beq, Share_beq, Journey_beq, FieldT_beq, Product_beq, toNat0, toNat1, toNat2, toNat3, toNat4, toNat5, toNat6, toNat7, toNat8, toNat9, toNat10, toNat11, toNat12, toNat13, toNat14, toNat15, toNat16, toNat17, toNat18, toNat19, iA, iOf, atS, rwA, castK, zK, true_and, and_true, decide_eq_true_eq, decide_eq_false_iff_not, beq_iff_eq, bne_iff_ne, beq_eq_false_iff_ne, bne_eq_false_iff_eq, Bool.not_eq_true', Bool.not_eq_false', Bool.not_eq_true, Bool.not_eq_false, Nat.succ_eq_add_one, Int.not_lt, Int.not_le, gt_iff_lt, ge_iff_le, show bytesS T_fareboxref13_Numbers 24 = 8 from rfl] at *
    exact Res.mk ⟨rfl, rfl⟩
  · exact h.fail.elim

def T_fareboxref13_Good : TT := [(3, ⟨.int .i64, 1, 8, [.int .i64 0], some .int⟩),
  (4, ⟨.bool, 1, 1, [.bool false], some .bool⟩),
  (24, ⟨.slice 3, 1, 24, [.slice none 0 0], none⟩),
  (40, ⟨.int .i64, 1, 8, [.int .i64 0], none⟩),
  (73, ⟨.strct [(0, 3), (1, 3), (2, 3), (3, 3), (4, 3), (5, 40), (6, 3), (7, 3), (8, 3), (9, 3)], 10, 80, [.int .i64 0, .int .i64 0, .int .i64 0, .int .i64 0, .int .i64 0, .int .i64 0, .int .i64 0, .int .i64 0, .int .i64 0, .int .i64 0], some .journey⟩)]
theorem tOk_fareboxref13_Good : TOk Try.prog T_fareboxref13_Good := tOk_of (by kernel_rfl)
def sp_fareboxref13_Good : Spec := fun args hp => match args, hp with
  | [.agg j_cs], [] => (match decS .journey j_cs with
    | some j => .ok (bv (goodJ j)) []
    | none => .fail "struct")
  | _, _ => .fail "fareboxref13_Good"
abbrev k_fareboxref13_Good : List (Option RK) := [none]
def a_fareboxref13_Good : List SV → List (Nat × VB) → Anns := fun args hp => match args, hp with
  | [.agg j_cs], [] => (match decS .journey j_cs with
    | some j => [(5, fun S => .inv [] [] [] fun ids vs rs => { cars := [.i 7 .i64], inv := fun ((i, _) : Int × Unit) => IRG j i, mu := fun ((i, _) : Int × Unit) => 10 - i.toNat })]
    | none => [])
  | _, _ => []
set_option maxHeartbeats 20000000 in
theorem ok_fareboxref13_Good : GOk Try.prog 50 (lift k_fareboxref13_Good sp_fareboxref13_Good) := by
  refine pf_ok (T := T_fareboxref13_Good) (Γ := (78, lift k_fareboxref13_Numbers sp_fareboxref13_Numbers) :: []) tOk_fareboxref13_Good (gOks_cons ok_fareboxref13_Numbers (gOks_nil _)) mixed Try.func50 (c := body Try.f50) (by kernel_rfl) (by kernel_rfl) k_fareboxref13_Good sp_fareboxref13_Good (by kernel_rfl) (by kernel_rfl) a_fareboxref13_Good ?_
  intro args hp s u hfit h
  unfold sp_fareboxref13_Good at h
  split at h
  · rename_i j_cs
    split at h
    case h_2 => exact h.fail.elim
    rename_i j h_j
    obtain rfl := decS_ok (k := .journey) rfl h_j
    clear h_j
    change Journey at j
    obtain ⟨rfl, rfl⟩ := h.ok
    clear h hfit
    conv => whnf
    repeat' (first
      | (refine And.intro ?_ ?_ <;> try conv => whnf)
      | (intro hh; first | (cases hh; done) | conv => whnf))
    all_goals try first | rfl | kernel_rfl
    all_goals try simp only [decide_eq_true_eq, decide_eq_false_iff_not] at *
    all_goals try simp only [Key_eta, Share_eta, Journey_eta, Batch_eta, FieldT_eta, OpB_eta, Product_eta, Key_beq, Share_beq, Journey_beq, FieldT_beq, Product_beq, toNat0, toNat1, toNat2, toNat3, toNat4, toNat5, toNat6, toNat7, toNat8, toNat9, toNat10, toNat11, toNat12, toNat13, toNat14, toNat15, toNat16, toNat17, toNat18, toNat19, iA, iOf, atS, rwA, castK, zK, true_and, and_true, decide_eq_true_eq, decide_eq_false_iff_not, beq_iff_eq, bne_iff_ne, beq_eq_false_iff_ne, bne_eq_false_iff_eq, Bool.not_eq_true', Bool.not_eq_false', Bool.not_eq_true, Bool.not_eq_false, Nat.succ_eq_add_one, Int.not_lt, Int.not_le, gt_iff_lt, ge_iff_le, show bytesS T_fareboxref13_Good 24 = 8 from rfl] at *
    all_goals have hten : (numbersJ j).length = 10 := rfl
    all_goals try (
      obtain ⟨m, hm, rfl, hg⟩ := ‹IRG _ _›
      (try simp only [Int.toNat_natCast] at *)
      skip)
    all_goals try (refine Vc.mk ?_; first | omega | (simp only [List.length_cons, List.length_nil]; omega))
    · exact ⟨⟨0, by omega, rfl, fun q hq => by omega⟩⟩
    · exact Res.mk (not_goodJ (m := m) (by omega) (.inl ‹_›)).symm
    · exact Res.mk (not_goodJ (m := m) (by omega) (.inr ‹_›)).symm
    · refine ⟨⟨m + 1, by omega, by rw [wrap64] <;> omega, fun q hq => ?_⟩, by rw [wrap64] <;> omega⟩
      by_cases e : q = m
      · subst e; exact ⟨‹_›, ‹_›⟩
      · exact hg q (by omega)
    · exact Res.mk ((goodJ_okAt j).2 fun q hq => hg q (by omega)).symm
  · exact h.fail.elim

def T_fareboxref13_layS0 : TT := [(3, ⟨.int .i64, 1, 8, [.int .i64 0], some .int⟩),
  (4, ⟨.bool, 1, 1, [.bool false], some .bool⟩),
  (5, ⟨.int .u8, 1, 1, [.int .u8 0], some .u8⟩),
  (57, ⟨.slice 5, 1, 24, [.slice none 0 0], none⟩)]
theorem tOk_fareboxref13_layS0 : TOk Try.prog T_fareboxref13_layS0 := tOk_of (by kernel_rfl)
def sp_fareboxref13_layS0 : Spec := fun args hp => match args, hp with
  | [.val (.int .i64 n), .val (.int .i64 size)], [] => .vc (0 ≤ size ∧ size ≤ 0 ∧ 0 ≤ n ∧ n ≤ 9223372036854775807) (.slF 2000) [(2000, some (.row true .u8 (be size.toNat n)))]
  | _, _ => .fail "fareboxref13_layS0"
abbrev k_fareboxref13_layS0 : List (Option RK) := [none, none]
def a_fareboxref13_layS0 : List SV → List (Nat × VB) → Anns := fun _ _ => []
set_option maxHeartbeats 20000000 in
theorem ok_fareboxref13_layS0 : GOk Try.prog 69 (lift k_fareboxref13_layS0 sp_fareboxref13_layS0) := by
  refine pf_ok (T := T_fareboxref13_layS0) (Γ := []) tOk_fareboxref13_layS0 (gOks_nil _) mixed Try.func69 (c := body Try.f69) (by kernel_rfl) (by kernel_rfl) k_fareboxref13_layS0 sp_fareboxref13_layS0 (by kernel_rfl) (by kernel_rfl) a_fareboxref13_layS0 ?_
  intro args hp s u hfit h
  unfold sp_fareboxref13_layS0 at h
  split at h
  · rename_i n size
    obtain ⟨hvc, rfl, rfl⟩ := h.vc
    clear h hfit
    conv => whnf
    repeat' (first
      | (refine And.intro ?_ ?_ <;> try conv => whnf)
      | (intro hh; first | (cases hh; done) | conv => whnf))
    all_goals try first | rfl | kernel_rfl
    all_goals try simp only [decide_eq_true_eq, decide_eq_false_iff_not] at *
    all_goals try simp only [Key_eta, Share_eta, Journey_eta, Batch_eta, FieldT_eta, OpB_eta, Product_eta, Key_beq, Share_beq, Journey_beq, FieldT_beq, Product_beq, toNat0, toNat1, toNat2, toNat3, toNat4, toNat5, toNat6, toNat7, toNat8, toNat9, toNat10, toNat11, toNat12, toNat13, toNat14, toNat15, toNat16, toNat17, toNat18, toNat19, iA, iOf, atS, rwA, castK, zK, true_and, and_true, decide_eq_true_eq, decide_eq_false_iff_not, beq_iff_eq, bne_iff_ne, beq_eq_false_iff_ne, bne_eq_false_iff_eq, Bool.not_eq_true', Bool.not_eq_false', Bool.not_eq_true, Bool.not_eq_false, Nat.succ_eq_add_one, Int.not_lt, Int.not_le, gt_iff_lt, ge_iff_le, show bytesS T_fareboxref13_layS0 57 = 1 from rfl] at *
    all_goals obtain ⟨h0, h1, h2, h3⟩ := hvc
    all_goals try (exfalso; omega)
    all_goals try rw [Int.tdiv_eq_ediv_of_nonneg h2] at *
    all_goals try rw [Int.tmod_eq_emod_of_nonneg h2] at *
    all_goals have w1 : IntKind.i64.wrap (size - 1) = size - 1 := wrap64 (by omega) (by omega)
    all_goals have w2 : n ≤ 9223372036854775807 → IntKind.i64.wrap (n / 256) = n / 256 := fun _ => wrap64 (by omega) (by omega)
    all_goals try rw [w1]
    all_goals try rw [w2 h3]
    all_goals try (refine Vc.mk ?_; first | omega | (simp only [be_length, List.length_cons, List.length_nil]; omega))
    all_goals first
      | (refine Res.mk ?_; rw [show size.toNat = 0 by omega]; rfl)
      | (refine Res.mk ?_; rw [show size.toNat = (size - 1).toNat + 1 by omega]; simp only [be]; rw [wrapU8 (by omega) (by omega)])
  · exact h.fail.elim

def T_fareboxref13_layS1 : TT := [(3, ⟨.int .i64, 1, 8, [.int .i64 0], some .int⟩),
  (4, ⟨.bool, 1, 1, [.bool false], some .bool⟩),
  (5, ⟨.int .u8, 1, 1, [.int .u8 0], some .u8⟩),
  (57, ⟨.slice 5, 1, 24, [.slice none 0 0], none⟩)]
theorem tOk_fareboxref13_layS1 : TOk Try.prog T_fareboxref13_layS1 := tOk_of (by kernel_rfl)
def sp_fareboxref13_layS1 : Spec := fun args hp => match args, hp with
  | [.val (.int .i64 n), .val (.int .i64 size)], [] => .vc (0 ≤ size ∧ size ≤ 1 ∧ 0 ≤ n ∧ n ≤ 9223372036854775807) (.slF 2000) [(2000, some (.row true .u8 (be size.toNat n)))]
  | _, _ => .fail "fareboxref13_layS1"
abbrev k_fareboxref13_layS1 : List (Option RK) := [none, none]
def a_fareboxref13_layS1 : List SV → List (Nat × VB) → Anns := fun _ _ => []
set_option maxHeartbeats 20000000 in
theorem ok_fareboxref13_layS1 : GOk Try.prog 69 (lift k_fareboxref13_layS1 sp_fareboxref13_layS1) := by
  refine pf_ok (T := T_fareboxref13_layS1) (Γ := (69, lift k_fareboxref13_layS0 sp_fareboxref13_layS0) :: []) tOk_fareboxref13_layS1 (gOks_cons ok_fareboxref13_layS0 (gOks_nil _)) mixed Try.func69 (c := body Try.f69) (by kernel_rfl) (by kernel_rfl) k_fareboxref13_layS1 sp_fareboxref13_layS1 (by kernel_rfl) (by kernel_rfl) a_fareboxref13_layS1 ?_
  intro args hp s u hfit h
  unfold sp_fareboxref13_layS1 at h
  split at h
  · rename_i n size
    obtain ⟨hvc, rfl, rfl⟩ := h.vc
    clear h hfit
    conv => whnf
    repeat' (first
      | (refine And.intro ?_ ?_ <;> try conv => whnf)
      | (intro hh; first | (cases hh; done) | conv => whnf))
    all_goals try first | rfl | kernel_rfl
    all_goals try simp only [decide_eq_true_eq, decide_eq_false_iff_not] at *
    all_goals try simp only [Key_eta, Share_eta, Journey_eta, Batch_eta, FieldT_eta, OpB_eta, Product_eta, Key_beq, Share_beq, Journey_beq, FieldT_beq, Product_beq, toNat0, toNat1, toNat2, toNat3, toNat4, toNat5, toNat6, toNat7, toNat8, toNat9, toNat10, toNat11, toNat12, toNat13, toNat14, toNat15, toNat16, toNat17, toNat18, toNat19, iA, iOf, atS, rwA, castK, zK, true_and, and_true, decide_eq_true_eq, decide_eq_false_iff_not, beq_iff_eq, bne_iff_ne, beq_eq_false_iff_ne, bne_eq_false_iff_eq, Bool.not_eq_true', Bool.not_eq_false', Bool.not_eq_true, Bool.not_eq_false, Nat.succ_eq_add_one, Int.not_lt, Int.not_le, gt_iff_lt, ge_iff_le, show bytesS T_fareboxref13_layS1 57 = 1 from rfl] at *
    all_goals obtain ⟨h0, h1, h2, h3⟩ := hvc
    all_goals try (exfalso; omega)
    all_goals try rw [Int.tdiv_eq_ediv_of_nonneg h2] at *
    all_goals try rw [Int.tmod_eq_emod_of_nonneg h2] at *
    all_goals have w1 : IntKind.i64.wrap (size - 1) = size - 1 := wrap64 (by omega) (by omega)
    all_goals have w2 : n ≤ 9223372036854775807 → IntKind.i64.wrap (n / 256) = n / 256 := fun _ => wrap64 (by omega) (by omega)
    all_goals try rw [w1]
    all_goals try rw [w2 h3]
    all_goals try (refine Vc.mk ?_; first | omega | (simp only [be_length, List.length_cons, List.length_nil]; omega))
    all_goals first
      | (refine Res.mk ?_; rw [show size.toNat = 0 by omega]; rfl)
      | (refine Res.mk ?_; rw [show size.toNat = (size - 1).toNat + 1 by omega]; simp only [be]; rw [wrapU8 (by omega) (by omega)])
  · exact h.fail.elim

def T_fareboxref13_layS2 : TT := [(3, ⟨.int .i64, 1, 8, [.int .i64 0], some .int⟩),
  (4, ⟨.bool, 1, 1, [.bool false], some .bool⟩),
  (5, ⟨.int .u8, 1, 1, [.int .u8 0], some .u8⟩),
  (57, ⟨.slice 5, 1, 24, [.slice none 0 0], none⟩)]
theorem tOk_fareboxref13_layS2 : TOk Try.prog T_fareboxref13_layS2 := tOk_of (by kernel_rfl)
def sp_fareboxref13_layS2 : Spec := fun args hp => match args, hp with
  | [.val (.int .i64 n), .val (.int .i64 size)], [] => .vc (0 ≤ size ∧ size ≤ 2 ∧ 0 ≤ n ∧ n ≤ 9223372036854775807) (.slF 2000) [(2000, some (.row true .u8 (be size.toNat n)))]
  | _, _ => .fail "fareboxref13_layS2"
abbrev k_fareboxref13_layS2 : List (Option RK) := [none, none]
def a_fareboxref13_layS2 : List SV → List (Nat × VB) → Anns := fun _ _ => []
set_option maxHeartbeats 20000000 in
theorem ok_fareboxref13_layS2 : GOk Try.prog 69 (lift k_fareboxref13_layS2 sp_fareboxref13_layS2) := by
  refine pf_ok (T := T_fareboxref13_layS2) (Γ := (69, lift k_fareboxref13_layS1 sp_fareboxref13_layS1) :: []) tOk_fareboxref13_layS2 (gOks_cons ok_fareboxref13_layS1 (gOks_nil _)) mixed Try.func69 (c := body Try.f69) (by kernel_rfl) (by kernel_rfl) k_fareboxref13_layS2 sp_fareboxref13_layS2 (by kernel_rfl) (by kernel_rfl) a_fareboxref13_layS2 ?_
  intro args hp s u hfit h
  unfold sp_fareboxref13_layS2 at h
  split at h
  · rename_i n size
    obtain ⟨hvc, rfl, rfl⟩ := h.vc
    clear h hfit
    conv => whnf
    repeat' (first
      | (refine And.intro ?_ ?_ <;> try conv => whnf)
      | (intro hh; first | (cases hh; done) | conv => whnf))
    all_goals try first | rfl | kernel_rfl
    all_goals try simp only [decide_eq_true_eq, decide_eq_false_iff_not] at *
    all_goals try simp only [Key_eta, Share_eta, Journey_eta, Batch_eta, FieldT_eta, OpB_eta, Product_eta, Key_beq, Share_beq, Journey_beq, FieldT_beq, Product_beq, toNat0, toNat1, toNat2, toNat3, toNat4, toNat5, toNat6, toNat7, toNat8, toNat9, toNat10, toNat11, toNat12, toNat13, toNat14, toNat15, toNat16, toNat17, toNat18, toNat19, iA, iOf, atS, rwA, castK, zK, true_and, and_true, decide_eq_true_eq, decide_eq_false_iff_not, beq_iff_eq, bne_iff_ne, beq_eq_false_iff_ne, bne_eq_false_iff_eq, Bool.not_eq_true', Bool.not_eq_false', Bool.not_eq_true, Bool.not_eq_false, Nat.succ_eq_add_one, Int.not_lt, Int.not_le, gt_iff_lt, ge_iff_le, show bytesS T_fareboxref13_layS2 57 = 1 from rfl] at *
    all_goals obtain ⟨h0, h1, h2, h3⟩ := hvc
    all_goals try (exfalso; omega)
    all_goals try rw [Int.tdiv_eq_ediv_of_nonneg h2] at *
    all_goals try rw [Int.tmod_eq_emod_of_nonneg h2] at *
    all_goals have w1 : IntKind.i64.wrap (size - 1) = size - 1 := wrap64 (by omega) (by omega)
    all_goals have w2 : n ≤ 9223372036854775807 → IntKind.i64.wrap (n / 256) = n / 256 := fun _ => wrap64 (by omega) (by omega)
    all_goals try rw [w1]
    all_goals try rw [w2 h3]
    all_goals try (refine Vc.mk ?_; first | omega | (simp only [be_length, List.length_cons, List.length_nil]; omega))
    all_goals first
      | (refine Res.mk ?_; rw [show size.toNat = 0 by omega]; rfl)
      | (refine Res.mk ?_; rw [show size.toNat = (size - 1).toNat + 1 by omega]; simp only [be]; rw [wrapU8 (by omega) (by omega)])
  · exact h.fail.elim

def T_fareboxref13_layS3 : TT := [(3, ⟨.int .i64, 1, 8, [.int .i64 0], some .int⟩),
  (4, ⟨.bool, 1, 1, [.bool false], some .bool⟩),
  (5, ⟨.int .u8, 1, 1, [.int .u8 0], some .u8⟩),
  (57, ⟨.slice 5, 1, 24, [.slice none 0 0], none⟩)]
theorem tOk_fareboxref13_layS3 : TOk Try.prog T_fareboxref13_layS3 := tOk_of (by kernel_rfl)
def sp_fareboxref13_layS3 : Spec := fun args hp => match args, hp with
  | [.val (.int .i64 n), .val (.int .i64 size)], [] => .vc (0 ≤ size ∧ size ≤ 3 ∧ 0 ≤ n ∧ n ≤ 9223372036854775807) (.slF 2000) [(2000, some (.row true .u8 (be size.toNat n)))]
  | _, _ => .fail "fareboxref13_layS3"
abbrev k_fareboxref13_layS3 : List (Option RK) := [none, none]
def a_fareboxref13_layS3 : List SV → List (Nat × VB) → Anns := fun _ _ => []
set_option maxHeartbeats 20000000 in
theorem ok_fareboxref13_layS3 : GOk Try.prog 69 (lift k_fareboxref13_layS3 sp_fareboxref13_layS3) := by
  refine pf_ok (T := T_fareboxref13_layS3) (Γ := (69, lift k_fareboxref13_layS2 sp_fareboxref13_layS2) :: []) tOk_fareboxref13_layS3 (gOks_cons ok_fareboxref13_layS2 (gOks_nil _)) mixed Try.func69 (c := body Try.f69) (by kernel_rfl) (by kernel_rfl) k_fareboxref13_layS3 sp_fareboxref13_layS3 (by kernel_rfl) (by kernel_rfl) a_fareboxref13_layS3 ?_
  intro args hp s u hfit h
  unfold sp_fareboxref13_layS3 at h
  split at h
  · rename_i n size
    obtain ⟨hvc, rfl, rfl⟩ := h.vc
    clear h hfit
    conv => whnf
    repeat' (first
      | (refine And.intro ?_ ?_ <;> try conv => whnf)
      | (intro hh; first | (cases hh; done) | conv => whnf))
    all_goals try first | rfl | kernel_rfl
    all_goals try simp only [decide_eq_true_eq, decide_eq_false_iff_not] at *
    all_goals try simp only [Key_eta, Share_eta, Journey_eta, Batch_eta, FieldT_eta, OpB_eta, Product_eta, Key_beq, Share_beq, Journey_beq, FieldT_beq, Product_beq, toNat0, toNat1, toNat2, toNat3, toNat4, toNat5, toNat6, toNat7, toNat8, toNat9, toNat10, toNat11, toNat12, toNat13, toNat14, toNat15, toNat16, toNat17, toNat18, toNat19, iA, iOf, atS, rwA, castK, zK, true_and, and_true, decide_eq_true_eq, decide_eq_false_iff_not, beq_iff_eq, bne_iff_ne, beq_eq_false_iff_ne, bne_eq_false_iff_eq, Bool.not_eq_true', Bool.not_eq_false', Bool.not_eq_true, Bool.not_eq_false, Nat.succ_eq_add_one, Int.not_lt, Int.not_le, gt_iff_lt, ge_iff_le, show bytesS T_fareboxref13_layS3 57 = 1 from rfl] at *
    all_goals obtain ⟨h0, h1, h2, h3⟩ := hvc
    all_goals try (exfalso; omega)
    all_goals try rw [Int.tdiv_eq_ediv_of_nonneg h2] at *
    all_goals try rw [Int.tmod_eq_emod_of_nonneg h2] at *
    all_goals have w1 : IntKind.i64.wrap (size - 1) = size - 1 := wrap64 (by omega) (by omega)
    all_goals have w2 : n ≤ 9223372036854775807 → IntKind.i64.wrap (n / 256) = n / 256 := fun _ => wrap64 (by omega) (by omega)
    all_goals try rw [w1]
    all_goals try rw [w2 h3]
    all_goals try (refine Vc.mk ?_; first | omega | (simp only [be_length, List.length_cons, List.length_nil]; omega))
    all_goals first
      | (refine Res.mk ?_; rw [show size.toNat = 0 by omega]; rfl)
      | (refine Res.mk ?_; rw [show size.toNat = (size - 1).toNat + 1 by omega]; simp only [be]; rw [wrapU8 (by omega) (by omega)])
  · exact h.fail.elim

def T_fareboxref13_layS4 : TT := [(3, ⟨.int .i64, 1, 8, [.int .i64 0], some .int⟩),
  (4, ⟨.bool, 1, 1, [.bool false], some .bool⟩),
  (5, ⟨.int .u8, 1, 1, [.int .u8 0], some .u8⟩),
  (57, ⟨.slice 5, 1, 24, [.slice none 0 0], none⟩)]
theorem tOk_fareboxref13_layS4 : TOk Try.prog T_fareboxref13_layS4 := tOk_of (by kernel_rfl)
def sp_fareboxref13_layS4 : Spec := fun args hp => match args, hp with
  | [.val (.int .i64 n), .val (.int .i64 size)], [] => .vc (0 ≤ size ∧ size ≤ 4 ∧ 0 ≤ n ∧ n ≤ 9223372036854775807) (.slF 2000) [(2000, some (.row true .u8 (be size.toNat n)))]
  | _, _ => .fail "fareboxref13_layS4"
abbrev k_fareboxref13_layS4 : List (Option RK) := [none, none]
def a_fareboxref13_layS4 : List SV → List (Nat × VB) → Anns := fun _ _ => []
set_option maxHeartbeats 20000000 in
theorem ok_fareboxref13_layS4 : GOk Try.prog 69 (lift k_fareboxref13_layS4 sp_fareboxref13_layS4) := by
  refine pf_ok (T := T_fareboxref13_layS4) (Γ := (69, lift k_fareboxref13_layS3 sp_fareboxref13_layS3) :: []) tOk_fareboxref13_layS4 (gOks_cons ok_fareboxref13_layS3 (gOks_nil _)) mixed Try.func69 (c := body Try.f69) (by kernel_rfl) (by kernel_rfl) k_fareboxref13_layS4 sp_fareboxref13_layS4 (by kernel_rfl) (by kernel_rfl) a_fareboxref13_layS4 ?_
  intro args hp s u hfit h
  unfold sp_fareboxref13_layS4 at h
  split at h
  · rename_i n size
    obtain ⟨hvc, rfl, rfl⟩ := h.vc
    clear h hfit
    conv => whnf
    repeat' (first
      | (refine And.intro ?_ ?_ <;> try conv => whnf)
      | (intro hh; first | (cases hh; done) | conv => whnf))
    all_goals try first | rfl | kernel_rfl
    all_goals try simp only [decide_eq_true_eq, decide_eq_false_iff_not] at *
    all_goals try simp only [Key_eta, Share_eta, Journey_eta, Batch_eta, FieldT_eta, OpB_eta, Product_eta, Key_beq, Share_beq, Journey_beq, FieldT_beq, Product_beq, toNat0, toNat1, toNat2, toNat3, toNat4, toNat5, toNat6, toNat7, toNat8, toNat9, toNat10, toNat11, toNat12, toNat13, toNat14, toNat15, toNat16, toNat17, toNat18, toNat19, iA, iOf, atS, rwA, castK, zK, true_and, and_true, decide_eq_true_eq, decide_eq_false_iff_not, beq_iff_eq, bne_iff_ne, beq_eq_false_iff_ne, bne_eq_false_iff_eq, Bool.not_eq_true', Bool.not_eq_false', Bool.not_eq_true, Bool.not_eq_false, Nat.succ_eq_add_one, Int.not_lt, Int.not_le, gt_iff_lt, ge_iff_le, show bytesS T_fareboxref13_layS4 57 = 1 from rfl] at *
    all_goals obtain ⟨h0, h1, h2, h3⟩ := hvc
    all_goals try (exfalso; omega)
    all_goals try rw [Int.tdiv_eq_ediv_of_nonneg h2] at *
    all_goals try rw [Int.tmod_eq_emod_of_nonneg h2] at *
    all_goals have w1 : IntKind.i64.wrap (size - 1) = size - 1 := wrap64 (by omega) (by omega)
    all_goals have w2 : n ≤ 9223372036854775807 → IntKind.i64.wrap (n / 256) = n / 256 := fun _ => wrap64 (by omega) (by omega)
    all_goals try rw [w1]
    all_goals try rw [w2 h3]
    all_goals try (refine Vc.mk ?_; first | omega | (simp only [be_length, List.length_cons, List.length_nil]; omega))
    all_goals first
      | (refine Res.mk ?_; rw [show size.toNat = 0 by omega]; rfl)
      | (refine Res.mk ?_; rw [show size.toNat = (size - 1).toNat + 1 by omega]; simp only [be]; rw [wrapU8 (by omega) (by omega)])
  · exact h.fail.elim

def T_fareboxref13_Form : TT := [(3, ⟨.int .i64, 1, 8, [.int .i64 0], some .int⟩),
  (4, ⟨.bool, 1, 1, [.bool false], some .bool⟩),
  (5, ⟨.int .u8, 1, 1, [.int .u8 0], some .u8⟩),
  (24, ⟨.slice 3, 1, 24, [.slice none 0 0], none⟩),
  (40, ⟨.int .i64, 1, 8, [.int .i64 0], none⟩),
  (57, ⟨.slice 5, 1, 24, [.slice none 0 0], none⟩),
  (73, ⟨.strct [(0, 3), (1, 3), (2, 3), (3, 3), (4, 3), (5, 40), (6, 3), (7, 3), (8, 3), (9, 3)], 10, 80, [.int .i64 0, .int .i64 0, .int .i64 0, .int .i64 0, .int .i64 0, .int .i64 0, .int .i64 0, .int .i64 0, .int .i64 0, .int .i64 0], some .journey⟩)]
theorem tOk_fareboxref13_Form : TOk Try.prog T_fareboxref13_Form := tOk_of (by kernel_rfl)
def sp_fareboxref13_Form : Spec := fun args hp => match args, hp with
  | [.agg j_cs], [] => (match decS .journey j_cs with
    | some j => .vc (goodJ j = true) (.slF 2000) [(2000, some (.row true .u8 (formJ j)))]
    | none => .fail "struct")
  | _, _ => .fail "fareboxref13_Form"
abbrev k_fareboxref13_Form : List (Option RK) := [none]
def a_fareboxref13_Form : List SV → List (Nat × VB) → Anns := fun args hp => match args, hp with
  | [.agg j_cs], [] => (match decS .journey j_cs with
    | some j => [(4, fun S => .inv [] [] [] fun ids vs rs => { cars := [.i 6 .i64, .r 3 true .u8], inv := fun ((i, out, _) : Int × List Int × Unit) => IRF j i out, mu := fun ((i, out, _) : Int × List Int × Unit) => 10 - i.toNat })]
    | none => [])
  | _, _ => []
set_option maxHeartbeats 20000000 in
theorem ok_fareboxref13_Form : GOk Try.prog 51 (lift k_fareboxref13_Form sp_fareboxref13_Form) := by
  refine pf_ok (T := T_fareboxref13_Form) (Γ := (78, lift k_fareboxref13_Numbers sp_fareboxref13_Numbers) :: (69, lift k_fareboxref13_layS4 sp_fareboxref13_layS4) :: []) tOk_fareboxref13_Form (gOks_cons ok_fareboxref13_Numbers (gOks_cons ok_fareboxref13_layS4 (gOks_nil _))) mixed Try.func51 (c := body Try.f51) (by kernel_rfl) (by kernel_rfl) k_fareboxref13_Form sp_fareboxref13_Form (by kernel_rfl) (by kernel_rfl) a_fareboxref13_Form ?_
  intro args hp s u hfit h
  unfold sp_fareboxref13_Form at h
  split at h
  · rename_i j_cs
    split at h
    case h_2 => exact h.fail.elim
    rename_i j h_j
    obtain rfl := decS_ok (k := .journey) rfl h_j
    clear h_j
    change Journey at j
    obtain ⟨hvc, rfl, rfl⟩ := h.vc
    clear h hfit
    conv => whnf
    repeat' (first
      | (refine And.intro ?_ ?_ <;> try conv => whnf)
      | (intro hh; first | (cases hh; done) | conv => whnf))
    all_goals try first | rfl | kernel_rfl
    all_goals try simp only [decide_eq_true_eq, decide_eq_false_iff_not] at *
    all_goals try simp only [Key_eta, Share_eta, Journey_eta, Batch_eta, FieldT_eta, OpB_eta, Product_eta, Key_beq, Share_beq, Journey_beq, FieldT_beq, Product_beq, toNat0, toNat1, toNat2, toNat3, toNat4, toNat5, toNat6, toNat7, toNat8, toNat9, toNat10, toNat11, toNat12, toNat13, toNat14, toNat15, toNat16, toNat17, toNat18, toNat19, iA, iOf, atS, rwA, castK, zK, true_and, and_true, decide_eq_true_eq, decide_eq_false_iff_not, beq_iff_eq, bne_iff_ne, beq_eq_false_iff_ne, bne_eq_false_iff_eq, Bool.not_eq_true', Bool.not_eq_false', Bool.not_eq_true, Bool.not_eq_false, Nat.succ_eq_add_one, Int.not_lt, Int.not_le, gt_iff_lt, ge_iff_le, show bytesS T_fareboxref13_Form 24 = 8 from rfl, show bytesS T_fareboxref13_Form 57 = 1 from rfl] at *
    all_goals have hten : (numbersJ j).length = 10 := rfl
    all_goals have hten' : sizesL.length = 10 := rfl
    all_goals try (
      obtain ⟨m, hm, rfl, rfl⟩ := ‹IRF _ _ _›
      (try simp only [Int.toNat_natCast] at *))
    all_goals try (
      have hm' : m < 10 := by omega
      obtain ⟨z1, z2, z3, z4⟩ := size_of m hm'
      have hp := nums_pos hvc hm'
      have hl := bytesF_len ((fieldsJ j).take m) (by rw [List.all_eq_true]; exact fun x hx => List.all_eq_true.1 (fieldsJ_right hvc) x (List.mem_of_mem_take hx))
      rw [List.length_take] at hl)
    all_goals try (refine Vc.mk ?_; first | omega | (rw [be_length]; omega))
    · exact ⟨⟨0, by omega, rfl, rfl⟩⟩
    · refine ⟨⟨m + 1, by omega, by rw [wrap64] <;> omega, ?_⟩, by rw [wrap64] <;> omega⟩
      rw [take_getD (d := (⟨0, 0⟩ : FieldT)) (show m < (fieldsJ j).length from hm'), bytesF_snoc, fieldsJ_get j hm', z3]
    · obtain rfl : m = 10 := by omega
      exact Res.mk rfl
  · exact h.fail.elim

def T_fareboxref13_number : TT := [(3, ⟨.int .i64, 1, 8, [.int .i64 0], some .int⟩),
  (4, ⟨.bool, 1, 1, [.bool false], some .bool⟩),
  (5, ⟨.int .u8, 1, 1, [.int .u8 0], some .u8⟩),
  (57, ⟨.slice 5, 1, 24, [.slice none 0 0], none⟩)]
theorem tOk_fareboxref13_number : TOk Try.prog T_fareboxref13_number := tOk_of (by kernel_rfl)
def sp_fareboxref13_number : Spec := fun args hp => match args, hp with
  | [.slP 0 b_i b_n], [(0, .row o_b .u8 b)] => .vc (isB ((b.drop b_i).take b_n) ∧ ((b.drop b_i).take b_n).length ≤ 4) (iv (num ((b.drop b_i).take b_n))) []
  | _, _ => .fail "fareboxref13_number"
abbrev k_fareboxref13_number : List (Option RK) := [some .u8]
def a_fareboxref13_number : List SV → List (Nat × VB) → Anns := fun args hp => match args, hp with
  | [.slP 0 b_i b_n], [(0, .row o_b .u8 b)] => [(3, fun S => .inv [] [] [] fun ids vs rs => { cars := [.i 4 .i64, .i 3 .i64], inv := fun ((i, n, _) : Int × Int × Unit) => INum ((b.drop b_i).take b_n) i n, mu := fun ((i, n, _) : Int × Int × Unit) => b_n - i.toNat })]
  | _, _ => []
set_option maxHeartbeats 20000000 in
theorem ok_fareboxref13_number : GOk Try.prog 70 (lift k_fareboxref13_number sp_fareboxref13_number) := by
  refine pf_ok (T := T_fareboxref13_number) (Γ := []) tOk_fareboxref13_number (gOks_nil _) mixed Try.func70 (c := body Try.f70) (by kernel_rfl) (by kernel_rfl) k_fareboxref13_number sp_fareboxref13_number (by kernel_rfl) (by kernel_rfl) a_fareboxref13_number ?_
  intro args hp s u hfit h
  unfold sp_fareboxref13_number at h
  split at h
  · rename_i b_i b_n o_b b
    obtain ⟨hvc, rfl, rfl⟩ := h.vc
    clear h
    change List Int at b
    conv => whnf
    repeat' (first
      | (refine And.intro ?_ ?_ <;> try conv => whnf)
      | (intro hh; first | (cases hh; done) | conv => whnf))
    all_goals try first | rfl | kernel_rfl
    all_goals try simp only [decide_eq_true_eq, decide_eq_false_iff_not] at *
    all_goals try simp only [Key_eta, Share_eta, Journey_eta, Batch_eta, FieldT_eta, OpB_eta, Product_eta, Key_beq, Share_beq, Journey_beq, FieldT_beq, Product_beq, toNat0, toNat1, toNat2, toNat3, toNat4, toNat5, toNat6, toNat7, toNat8, toNat9, toNat10, toNat11, toNat12, toNat13, toNat14, toNat15, toNat16, toNat17, toNat18, toNat19, iA, iOf, atS, rwA, castK, zK, true_and, and_true, decide_eq_true_eq, decide_eq_false_iff_not, beq_iff_eq, bne_iff_ne, beq_eq_false_iff_ne, bne_eq_false_iff_eq, Bool.not_eq_true', Bool.not_eq_false', Bool.not_eq_true, Bool.not_eq_false, Nat.succ_eq_add_one, Int.not_lt, Int.not_le, gt_iff_lt, ge_iff_le, show bytesS T_fareboxref13_number 57 = 1 from rfl] at *
    all_goals (
      have hf : b_n = 0 ∨ b_i + b_n ≤ b.length := hfit.1
      have hfn : ((b.drop b_i).take b_n).length = b_n := by
        rw [List.length_take, List.length_drop]
        omega
      have hge : ∀ i, i < b_n → ((b.drop b_i).take b_n).getD i 0 = b.getD (b_i + i) 0 := fun i hi => getD_take_drop hi)
    all_goals obtain ⟨hB, hL⟩ := hvc
    all_goals generalize hbb : ((b.drop b_i).take b_n) = bb at *
    all_goals subst hfn
    all_goals try (
      obtain ⟨j, hj, rfl, rfl⟩ := ‹INum _ _ _›
      (try simp only [Int.toNat_natCast] at *)
      have hn := num_lt (hB.take j)
      have hn2 : (2 : Int) ^ (8 * (bb.take j).length) ≤ 4294967296 := by
        rw [List.length_take]
        have : min j bb.length = 0 ∨ min j bb.length = 1 ∨ min j bb.length = 2 ∨ min j bb.length = 3 ∨ min j bb.length = 4 := by omega
        rcases this with e | e | e | e | e <;> rw [e] <;> decide)
    all_goals try (refine Vc.mk ?_; omega)
    · exact ⟨⟨0, Nat.zero_le _, rfl, rfl⟩⟩
    · have hlt : j < bb.length := by omega
      have hx := hB.getD j
      have he := hge j hlt
      rw [show ((b_i : Int) + (j : Int)).toNat = b_i + j by omega, ← he]
      refine ⟨⟨j + 1, by omega, by rw [wrap64] <;> omega, ?_⟩, by rw [wrap64] <;> omega⟩
      rw [take_succ hlt, num_snoc, wrap64 (n := 256 * _) (by omega) (by omega), wrap64 (n := bb.getD j 0) (by omega) (by omega), wrap64 (by omega) (by omega)]
    · obtain rfl : j = bb.length := by omega
      rw [List.take_length]
      exact Res.mk rfl
  · exact h.fail.elim

def T_fareboxref13_One : TT := [(3, ⟨.int .i64, 1, 8, [.int .i64 0], some .int⟩),
  (4, ⟨.bool, 1, 1, [.bool false], some .bool⟩),
  (5, ⟨.int .u8, 1, 1, [.int .u8 0], some .u8⟩),
  (24, ⟨.slice 3, 1, 24, [.slice none 0 0], none⟩),
  (40, ⟨.int .i64, 1, 8, [.int .i64 0], none⟩),
  (57, ⟨.slice 5, 1, 24, [.slice none 0 0], none⟩),
  (73, ⟨.strct [(0, 3), (1, 3), (2, 3), (3, 3), (4, 3), (5, 40), (6, 3), (7, 3), (8, 3), (9, 3)], 10, 80, [.int .i64 0, .int .i64 0, .int .i64 0, .int .i64 0, .int .i64 0, .int .i64 0, .int .i64 0, .int .i64 0, .int .i64 0, .int .i64 0], some .journey⟩)]
theorem tOk_fareboxref13_One : TOk Try.prog T_fareboxref13_One := tOk_of (by kernel_rfl)
def sp_fareboxref13_One : Spec := fun args hp => match args, hp with
  | [.slP 0 b_i b_n], [(0, .row o_b .u8 b)] => .vc (isB ((b.drop b_i).take b_n) ∧ ((b.drop b_i).take b_n).length = 19) (svJourney (parseJ ((b.drop b_i).take b_n))) []
  | _, _ => .fail "fareboxref13_One"
abbrev k_fareboxref13_One : List (Option RK) := [some .u8]
def a_fareboxref13_One : List SV → List (Nat × VB) → Anns := fun args hp => match args, hp with
  | [.slP 0 b_i b_n], [(0, .row o_b .u8 b)] => [(5, fun S => .inv [] [] [] fun ids vs rs => { cars := [.i 7 .i64, .r 5 true .int, .i 6 .i64], inv := fun ((i, ns, a, _) : Int × List Int × Int × Unit) => IOne ((b.drop b_i).take b_n) i ns a, mu := fun ((i, ns, a, _) : Int × List Int × Int × Unit) => 10 - i.toNat })]
  | _, _ => []
set_option maxHeartbeats 20000000 in
theorem ok_fareboxref13_One : GOk Try.prog 71 (lift k_fareboxref13_One sp_fareboxref13_One) := by
  refine pf_ok (T := T_fareboxref13_One) (Γ := (78, lift k_fareboxref13_Numbers sp_fareboxref13_Numbers) :: (70, lift k_fareboxref13_number sp_fareboxref13_number) :: []) tOk_fareboxref13_One (gOks_cons ok_fareboxref13_Numbers (gOks_cons ok_fareboxref13_number (gOks_nil _))) mixed Try.func71 (c := body Try.f71) (by kernel_rfl) (by kernel_rfl) k_fareboxref13_One sp_fareboxref13_One (by kernel_rfl) (by kernel_rfl) a_fareboxref13_One ?_
  intro args hp s u hfit h
  unfold sp_fareboxref13_One at h
  split at h
  · rename_i b_i b_n o_b b
    obtain ⟨hvc, rfl, rfl⟩ := h.vc
    clear h
    change List Int at b
    conv => whnf
    repeat' (first
      | (refine And.intro ?_ ?_ <;> try conv => whnf)
      | (intro hh; first | (cases hh; done) | conv => whnf))
    all_goals try first | rfl | kernel_rfl
    all_goals try simp only [decide_eq_true_eq, decide_eq_false_iff_not] at *
    all_goals try simp only [Key_eta, Share_eta, Journey_eta, Batch_eta, FieldT_eta, OpB_eta, Product_eta, Key_beq, Share_beq, Journey_beq, FieldT_beq, Product_beq, toNat0, toNat1, toNat2, toNat3, toNat4, toNat5, toNat6, toNat7, toNat8, toNat9, toNat10, toNat11, toNat12, toNat13, toNat14, toNat15, toNat16, toNat17, toNat18, toNat19, iA, iOf, atS, rwA, castK, zK, true_and, and_true, decide_eq_true_eq, decide_eq_false_iff_not, beq_iff_eq, bne_iff_ne, beq_eq_false_iff_ne, bne_eq_false_iff_eq, Bool.not_eq_true', Bool.not_eq_false', Bool.not_eq_true, Bool.not_eq_false, Nat.succ_eq_add_one, Int.not_lt, Int.not_le, gt_iff_lt, ge_iff_le, show bytesS T_fareboxref13_One 24 = 8 from rfl, show bytesS T_fareboxref13_One 57 = 1 from rfl] at *
    all_goals (
      have hf : b_n = 0 ∨ b_i + b_n ≤ b.length := hfit.1
      have hfn : ((b.drop b_i).take b_n).length = b_n := by
        rw [List.length_take, List.length_drop]
        omega
      have hge : ∀ i, i < b_n → ((b.drop b_i).take b_n).getD i 0 = b.getD (b_i + i) 0 := fun i hi => getD_take_drop hi)
    all_goals obtain ⟨hB, hL⟩ := hvc
    all_goals have hten : (numbersJ ⟨0, 0, 0, 0, 0, 0, 0, 0, 0, 0⟩).length = 10 := rfl
    all_goals have hten' : sizesL.length = 10 := rfl
    all_goals try (
      obtain ⟨m, hm, rfl, rfl, rfl⟩ := ‹IOne _ _ _ _›
      (try simp only [Int.toNat_natCast] at *))
    all_goals try (
      have hm' : m < 10 := by omega
      obtain ⟨z1, z2, z3⟩ := sumB_ten m hm'
      obtain ⟨y1, y2, y3, y4⟩ := size_of m hm')
    all_goals try (
      have hs : (IntKind.i64.wrap ((sumB (widthsL.take m) : Int) + sizesL.getD m 0)).toNat - sumB (widthsL.take m) = (sizesL.getD m 0).toNat := by rw [wrap64 (by omega) (by omega)]; omega
      have hpp := part_part (b := b) (i := b_i) (n := b_n) (a := sumB (widthsL.take m)) (s := (sizesL.getD m 0).toNat) (by omega))
    all_goals try (
      obtain rfl : m = 10
      · omega
      rw [show widthsL.take 10 = widthsL from rfl] at *
      have hrl : (rd ((b.drop b_i).take b_n) widthsL).length = 10 := rd_length _ _)
    all_goals try (refine Vc.mk ?_; first | omega | (simp (disch := omega) only [wrap64, rd_length, List.length_take, List.length_cons, List.length_nil, Int.toNat_natCast]; omega))
    · exact ⟨⟨0, by omega, rfl, rfl, rfl⟩⟩
    · rw [hs, ← hpp]
      exact Vc.mk ⟨(hB.drop _).take _, by rw [List.length_take]; omega⟩
    · rw [hs, ← hpp, y3]
      refine ⟨⟨m + 1, by omega, by rw [wrap64] <;> omega, ?_, by rw [wrap64] <;> omega⟩, by rw [wrap64] <;> omega⟩
      rw [z3, rd_snoc]
    · exact Res.mk ⟨rfl, rfl, rfl, rfl, rfl, rfl, rfl, rfl, rfl, rfl⟩
  · exact h.fail.elim

def T_fareboxref13_Get : TT := [(3, ⟨.int .i64, 1, 8, [.int .i64 0], some .int⟩),
  (4, ⟨.bool, 1, 1, [.bool false], some .bool⟩),
  (5, ⟨.int .u8, 1, 1, [.int .u8 0], some .u8⟩),
  (40, ⟨.int .i64, 1, 8, [.int .i64 0], none⟩),
  (54, ⟨.slice 73, 1, 24, [.slice none 0 0], none⟩),
  (57, ⟨.slice 5, 1, 24, [.slice none 0 0], none⟩),
  (73, ⟨.strct [(0, 3), (1, 3), (2, 3), (3, 3), (4, 3), (5, 40), (6, 3), (7, 3), (8, 3), (9, 3)], 10, 80, [.int .i64 0, .int .i64 0, .int .i64 0, .int .i64 0, .int .i64 0, .int .i64 0, .int .i64 0, .int .i64 0, .int .i64 0, .int .i64 0], some .journey⟩)]
theorem tOk_fareboxref13_Get : TOk Try.prog T_fareboxref13_Get := tOk_of (by kernel_rfl)
def sp_fareboxref13_Get : Spec := fun args hp => match args, hp with
  | [.slF 0], [(0, .row o_b .u8 b)] => .vc (isB b ∧ b.length ≤ 1099511627776) (.tup [.slF 2000, iv (getJE b)]) [(2000, some (.row true .journey (getJ b)))]
  | _, _ => .fail "fareboxref13_Get"
abbrev k_fareboxref13_Get : List (Option RK) := [some .u8]
def a_fareboxref13_Get : List SV → List (Nat × VB) → Anns := fun args hp => match args, hp with
  | [.slF 0], [(0, .row o_b .u8 b)] => [(5, fun S => .inv [] [] [] fun ids vs rs => { cars := [.i 5 .i64, .r 4 true .journey], inv := fun ((i, out, _) : Int × List Journey × Unit) => IRGet b i out, mu := fun ((i, out, _) : Int × List Journey × Unit) => b.length - i.toNat })]
  | _, _ => []
set_option maxHeartbeats 20000000 in
theorem ok_fareboxref13_Get : GOk Try.prog 56 (lift k_fareboxref13_Get sp_fareboxref13_Get) := by
  refine pf_ok (T := T_fareboxref13_Get) (Γ := (71, lift k_fareboxref13_One sp_fareboxref13_One) :: (50, lift k_fareboxref13_Good sp_fareboxref13_Good) :: []) tOk_fareboxref13_Get (gOks_cons ok_fareboxref13_One (gOks_cons ok_fareboxref13_Good (gOks_nil _))) mixed Try.func56 (c := body Try.f56) (by kernel_rfl) (by kernel_rfl) k_fareboxref13_Get sp_fareboxref13_Get (by kernel_rfl) (by kernel_rfl) a_fareboxref13_Get ?_
  intro args hp s u hfit h
  unfold sp_fareboxref13_Get at h
  split at h
  · rename_i o_b b
    obtain ⟨hvc, rfl, rfl⟩ := h.vc
    clear h hfit
    change List Int at b
    conv => whnf
    repeat' (first
      | (refine And.intro ?_ ?_ <;> try conv => whnf)
      | (intro hh; first | (cases hh; done) | conv => whnf))
    all_goals try first | rfl | kernel_rfl
    all_goals try simp only [decide_eq_true_eq, decide_eq_false_iff_not] at *
    all_goals try simp only [Key_eta, Share_eta, Journey_eta, Batch_eta, FieldT_eta, OpB_eta, Product_eta, Key_beq, Share_beq, Journey_beq, FieldT_beq, Product_beq, toNat0, toNat1, toNat2, toNat3, toNat4, toNat5, toNat6, toNat7, toNat8, toNat9, toNat10, toNat11, toNat12, toNat13, toNat14, toNat15, toNat16, toNat17, toNat18, toNat19, iA, iOf, atS, rwA, castK, zK, true_and, and_true, decide_eq_true_eq, decide_eq_false_iff_not, beq_iff_eq, bne_iff_ne, beq_eq_false_iff_ne, bne_eq_false_iff_eq, Bool.not_eq_true', Bool.not_eq_false', Bool.not_eq_true, Bool.not_eq_false, Nat.succ_eq_add_one, Int.not_lt, Int.not_le, gt_iff_lt, ge_iff_le, show bytesS T_fareboxref13_Get 54 = 80 from rfl, show bytesS T_fareboxref13_Get 57 = 1 from rfl] at *
    all_goals obtain ⟨hB, hL⟩ := hvc
    all_goals try rw [Int.tmod_eq_emod_of_nonneg (by omega)] at *
    all_goals try (
      obtain ⟨j, hj, rfl, rfl, hg⟩ := ‹IRGet _ _ _›)
    all_goals try (refine Vc.mk ?_; first | omega | (simp (disch := omega) only [wrap64, parseJs_length, List.length_cons, List.length_nil]; omega))
    all_goals try (
      have hlt : j < b.length / 19 := by omega
      have w1 : (IntKind.i64.wrap (((19 * j : Nat) : Int) + 19)).toNat - (((19 * j : Nat) : Int)).toNat = 19 := by rw [wrap64 (by omega) (by omega)]; omega
      have w2 : (((19 * j : Nat) : Int)).toNat = 19 * j := by omega
      (try have hp := ‹goodJ (parseJ _) = _›)
      (try rw [w1, w2, parseJ_take] at hp))
    · have h : b.length % 19 ≠ 0 := by omega
      exact Res.mk (by simp [getJ, getJE, h])
    · exact ⟨⟨0, Nat.zero_le _, rfl, rfl, rfl⟩⟩
    · rw [w1, w2]
      exact Vc.mk ⟨(hB.drop _).take _, by rw [List.length_take, List.length_drop]; omega⟩
    · have h : b.length % 19 = 0 := by omega
      have hng : good (parseJs (b.length / 19) b) = false := not_good (j := j) (by rw [parseJs_length]; exact hlt) (by rw [parseJs_get _ hlt]; exact hp)
      exact Res.mk (by simp [getJ, getJE, h, hng])
    · rw [w1, w2, parseJ_take]
      refine ⟨⟨j + 1, by omega, by rw [wrap64] <;> omega, ?_, ?_⟩, by rw [wrap64 (by omega) (by omega)]; omega⟩
      · rw [parseJs_snoc]
      · rw [good_snoc, hg, hp]; rfl
    · have h : b.length % 19 = 0 := by omega
      obtain rfl : j = b.length / 19 := by omega
      exact Res.mk (by simp [getJ, getJE, h, hg])
  · exact h.fail.elim

def T_fareboxref13_Same : TT := [(3, ⟨.int .i64, 1, 8, [.int .i64 0], some .int⟩),
  (4, ⟨.bool, 1, 1, [.bool false], some .bool⟩),
  (40, ⟨.int .i64, 1, 8, [.int .i64 0], none⟩),
  (54, ⟨.slice 73, 1, 24, [.slice none 0 0], none⟩),
  (73, ⟨.strct [(0, 3), (1, 3), (2, 3), (3, 3), (4, 3), (5, 40), (6, 3), (7, 3), (8, 3), (9, 3)], 10, 80, [.int .i64 0, .int .i64 0, .int .i64 0, .int .i64 0, .int .i64 0, .int .i64 0, .int .i64 0, .int .i64 0, .int .i64 0, .int .i64 0], some .journey⟩)]
theorem tOk_fareboxref13_Same : TOk Try.prog T_fareboxref13_Same := tOk_of (by kernel_rfl)
def sp_fareboxref13_Same : Spec := fun args hp => match args, hp with
  | [.slF 0, .slF 1], [(0, .row o_a .journey a), (1, .row o_b .journey b)] => .vc (a.length ≤ 1099511627776 ∧ b.length ≤ 1099511627776) (bv (decide (a = b))) []
  | _, _ => .fail "fareboxref13_Same"
abbrev k_fareboxref13_Same : List (Option RK) := [some .journey, some .journey]
def a_fareboxref13_Same : List SV → List (Nat × VB) → Anns := fun args hp => match args, hp with
  | [.slF 0, .slF 1], [(0, .row o_a .journey a), (1, .row o_b .journey b)] => [(4, fun S => .inv [] [] [] fun ids vs rs => { cars := [.i 5 .i64], inv := fun ((i, _) : Int × Unit) => ISame a b i, mu := fun ((i, _) : Int × Unit) => a.length - i.toNat })]
  | _, _ => []
set_option maxHeartbeats 20000000 in
theorem ok_fareboxref13_Same : GOk Try.prog 39 (lift k_fareboxref13_Same sp_fareboxref13_Same) := by
  refine pf_ok (T := T_fareboxref13_Same) (Γ := []) tOk_fareboxref13_Same (gOks_nil _) mixed Try.func39 (c := body Try.f39) (by kernel_rfl) (by kernel_rfl) k_fareboxref13_Same sp_fareboxref13_Same (by kernel_rfl) (by kernel_rfl) a_fareboxref13_Same ?_
  intro args hp s u hfit h
  unfold sp_fareboxref13_Same at h
  split at h
  · rename_i o_a a o_b b
    obtain ⟨hvc, rfl, rfl⟩ := h.vc
    clear h hfit
    change List Journey at a
    change List Journey at b
    conv => whnf
    repeat' (first
      | (refine And.intro ?_ ?_ <;> try conv => whnf)
      | (intro hh; first | (cases hh; done) | conv => whnf))
    all_goals try first | rfl | kernel_rfl
    all_goals try simp only [decide_eq_true_eq, decide_eq_false_iff_not] at *
    all_goals try simp only [Key_eta, Share_eta, Journey_eta, Batch_eta, FieldT_eta, OpB_eta, Product_eta, Key_beq, Share_beq, Journey_beq, FieldT_beq, Product_beq, toNat0, toNat1, toNat2, toNat3, toNat4, toNat5, toNat6, toNat7, toNat8, toNat9, toNat10, toNat11, toNat12, toNat13, toNat14, toNat15, toNat16, toNat17, toNat18, toNat19, iA, iOf, atS, rwA, castK, zK, true_and, and_true, decide_eq_true_eq, decide_eq_false_iff_not, beq_iff_eq, bne_iff_ne, beq_eq_false_iff_ne, bne_eq_false_iff_eq, Bool.not_eq_true', Bool.not_eq_false', Bool.not_eq_true, Bool.not_eq_false, Nat.succ_eq_add_one, Int.not_lt, Int.not_le, gt_iff_lt, ge_iff_le, show bytesS T_fareboxref13_Same 54 = 80 from rfl] at *
    all_goals obtain ⟨hL, hL'⟩ := hvc
    all_goals try (
      obtain ⟨j, hj, rfl, hs⟩ := ‹ISame _ _ _›
      (try simp only [Int.toNat_natCast] at *))
    all_goals try (refine Vc.mk ?_; omega)
    · exact Res.mk (by rw [eq_comm, decide_eq_false_iff_not]; intro h; subst h; exact absurd rfl ‹_›)
    · exact ⟨⟨0, Nat.zero_le _, rfl, rfl⟩⟩
    · refine Res.mk ?_
      rw [eq_comm, decide_eq_false_iff_not]
      intro h
      subst h
      exact absurd rfl ‹_›
    · have hlt : j < a.length := by omega
      refine ⟨⟨j + 1, by omega, by rw [wrap64] <;> omega, ?_⟩, by rw [wrap64] <;> omega⟩
      rw [take_getD (d := (⟨0, 0, 0, 0, 0, 0, 0, 0, 0, 0⟩ : Journey)) hlt, take_getD (d := (⟨0, 0, 0, 0, 0, 0, 0, 0, 0, 0⟩ : Journey)) (show j < b.length by omega), hs]
      congr 2
      (try assumption)
    · refine Res.mk ?_
      rw [eq_comm, decide_eq_true_eq]
      rw [List.take_of_length_le (by omega), List.take_of_length_le (by omega)] at hs
      exact hs
  · exact h.fail.elim

end Go.Proofs.Ytncdakkigkmfjaa.Sx
