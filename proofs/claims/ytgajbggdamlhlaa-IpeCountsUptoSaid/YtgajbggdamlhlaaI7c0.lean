import Derived.Test.YtgajbggdamlhlaaProg
import Derived.Test.YtgajbggdamlhlaaSxU
import Derived.IntWalk
import Derived.Test.YtgajbggdamlhlaaI7r
/-! ipe, Parse, pure -/
namespace Go.Proofs.Ytgajbggdamlhlaa.Sx
open Go
set_option linter.unusedVariables false
set_option linter.unusedSimpArgs false
set_option maxRecDepth 100000

def T_fareboxref10_Numbers : TT := [(3, ⟨.int .i64, 1, 8, [.int .i64 0], some .int⟩),
  (4, ⟨.bool, 1, 1, [.bool false], some .bool⟩),
  (22, ⟨.slice 3, 1, 24, [.slice none 0 0], none⟩),
  (39, ⟨.int .i64, 1, 8, [.int .i64 0], some .int⟩),
  (41, ⟨.strct [(0, 39), (1, 3), (2, 3), (3, 3), (4, 3), (5, 3), (6, 3), (7, 3), (8, 4), (9, 3), (10, 3), (11, 3), (12, 3), (13, 4)], 14, 112, [.int .i64 0, .int .i64 0, .int .i64 0, .int .i64 0, .int .i64 0, .int .i64 0, .int .i64 0, .int .i64 0, .bool false, .int .i64 0, .int .i64 0, .int .i64 0, .int .i64 0, .bool false], some .product⟩)]
theorem tOk_fareboxref10_Numbers : TOk Try.prog T_fareboxref10_Numbers := tOk_of (by kernel_rfl)
def sp_fareboxref10_Numbers : Spec := fun args hp => match args, hp with
  | [.agg p_cs], [] => (match decS .product p_cs with
    | some p => .ok (.slF 2000) [(2000, some (.row true .int (numsP p)))]
    | none => .fail "struct")
  | _, _ => .fail "fareboxref10_Numbers"
abbrev k_fareboxref10_Numbers : List (Option RK) := [none]
def a_fareboxref10_Numbers : List SV → List (Nat × VB) → Anns := fun _ _ => []
set_option maxHeartbeats 20000000 in
theorem ok_fareboxref10_Numbers : GOk Try.prog 52 (lift k_fareboxref10_Numbers sp_fareboxref10_Numbers) := by
  refine pf_ok (T := T_fareboxref10_Numbers) (Γ := []) tOk_fareboxref10_Numbers (gOks_nil _) mixed Try.func52 (c := body Try.f52) (by kernel_rfl) (by kernel_rfl) k_fareboxref10_Numbers sp_fareboxref10_Numbers (by kernel_rfl) (by kernel_rfl) a_fareboxref10_Numbers ?_
  intro args hp s u hfit h
  unfold sp_fareboxref10_Numbers at h
  split at h
  · rename_i p_cs
    split at h
    case h_2 => exact h.fail.elim
    rename_i p h_p
    obtain rfl := decS_ok (k := .product) rfl h_p
    clear h_p
    change Product at p
    obtain ⟨rfl, rfl⟩ := h.ok
    clear h hfit
    conv => whnf
    repeat' (first
      | (refine And.intro ?_ ?_ <;> try conv => whnf)
      | (intro hh; first | (cases hh; done) | conv => whnf))
    all_goals try first | rfl | kernel_rfl
    all_goals try simp only [decide_eq_true_eq, decide_eq_false_iff_not] at *
    all_goals try simp only [Key_eta, Share_eta, Journey_eta, Batch_eta, FieldT_eta, OpB_eta, Product_eta, Item_eta, Delta_eta, Elem_eta, Rule_eta, Do10_eta, Key_beq, Share_beq, Journey_beq, FieldT_beq, Product_beq, Item_beq, Do10_beq, toNat0, toNat1, toNat2, toNat3, toNat4, toNat5, toNat6, toNat7, toNat8, toNat9, toNat10, toNat11, toNat12, toNat13, toNat14, toNat15, toNat16, toNat17, toNat18, toNat19, iA, iOf, atS, rwA, castK, zK, true_and, and_true, decide_eq_true_eq, decide_eq_false_iff_not, beq_iff_eq, bne_iff_ne, beq_eq_false_iff_ne, bne_eq_false_iff_eq, Bool.not_eq_true', Bool.not_eq_false', Bool.not_eq_true, Bool.not_eq_false, Nat.succ_eq_add_one, Int.not_lt, Int.not_le, gt_iff_lt, ge_iff_le, show bytesS T_fareboxref10_Numbers 22 = 8 from rfl] at *
    all_goals (refine Res.mk ?_; simp [numsP, b2i, *])
  · exact h.fail.elim

def T_fareboxref10_Right : TT := [(3, ⟨.int .i64, 1, 8, [.int .i64 0], some .int⟩),
  (4, ⟨.bool, 1, 1, [.bool false], some .bool⟩),
  (22, ⟨.slice 3, 1, 24, [.slice none 0 0], none⟩),
  (39, ⟨.int .i64, 1, 8, [.int .i64 0], some .int⟩),
  (41, ⟨.strct [(0, 39), (1, 3), (2, 3), (3, 3), (4, 3), (5, 3), (6, 3), (7, 3), (8, 4), (9, 3), (10, 3), (11, 3), (12, 3), (13, 4)], 14, 112, [.int .i64 0, .int .i64 0, .int .i64 0, .int .i64 0, .int .i64 0, .int .i64 0, .int .i64 0, .int .i64 0, .bool false, .int .i64 0, .int .i64 0, .int .i64 0, .int .i64 0, .bool false], some .product⟩)]
theorem tOk_fareboxref10_Right : TOk Try.prog T_fareboxref10_Right := tOk_of (by kernel_rfl)
def sp_fareboxref10_Right : Spec := fun args hp => match args, hp with
  | [.agg p_cs], [] => (match decS .product p_cs with
    | some p => .ok (bv (rightP p)) []
    | none => .fail "struct")
  | _, _ => .fail "fareboxref10_Right"
abbrev k_fareboxref10_Right : List (Option RK) := [none]
def a_fareboxref10_Right : List SV → List (Nat × VB) → Anns := fun args hp => match args, hp with
  | [.agg p_cs], [] => (match decS .product p_cs with
    | some p => [(4, fun S => .inv [] [] [] fun ids vs rs => { cars := [.i 5 .i64], inv := fun ((i, _) : Int × Unit) => IRr p i, mu := fun ((i, _) : Int × Unit) => 14 - i.toNat })]
    | none => [])
  | _, _ => []
set_option maxHeartbeats 20000000 in
theorem ok_fareboxref10_Right : GOk Try.prog 21 (lift k_fareboxref10_Right sp_fareboxref10_Right) := by
  refine pf_ok (T := T_fareboxref10_Right) (Γ := (52, lift k_fareboxref10_Numbers sp_fareboxref10_Numbers) :: []) tOk_fareboxref10_Right (gOks_cons ok_fareboxref10_Numbers (gOks_nil _)) mixed Try.func21 (c := body Try.f21) (by kernel_rfl) (by kernel_rfl) k_fareboxref10_Right sp_fareboxref10_Right (by kernel_rfl) (by kernel_rfl) a_fareboxref10_Right ?_
  intro args hp s u hfit h
  unfold sp_fareboxref10_Right at h
  split at h
  · rename_i p_cs
    split at h
    case h_2 => exact h.fail.elim
    rename_i p h_p
    obtain rfl := decS_ok (k := .product) rfl h_p
    clear h_p
    change Product at p
    obtain ⟨rfl, rfl⟩ := h.ok
    clear h hfit
    conv => whnf
    repeat' (first
      | (refine And.intro ?_ ?_ <;> try conv => whnf)
      | (intro hh; first | (cases hh; done) | conv => whnf))
    all_goals try first | rfl | kernel_rfl
    all_goals try simp only [decide_eq_true_eq, decide_eq_false_iff_not] at *
    all_goals try simp only [Key_eta, Share_eta, Journey_eta, Batch_eta, FieldT_eta, OpB_eta, Product_eta, Item_eta, Delta_eta, Elem_eta, Rule_eta, Do10_eta, Key_beq, Share_beq, Journey_beq, FieldT_beq, Product_beq, Item_beq, Do10_beq, toNat0, toNat1, toNat2, toNat3, toNat4, toNat5, toNat6, toNat7, toNat8, toNat9, toNat10, toNat11, toNat12, toNat13, toNat14, toNat15, toNat16, toNat17, toNat18, toNat19, iA, iOf, atS, rwA, castK, zK, true_and, and_true, decide_eq_true_eq, decide_eq_false_iff_not, beq_iff_eq, bne_iff_ne, beq_eq_false_iff_ne, bne_eq_false_iff_eq, Bool.not_eq_true', Bool.not_eq_false', Bool.not_eq_true, Bool.not_eq_false, Nat.succ_eq_add_one, Int.not_lt, Int.not_le, gt_iff_lt, ge_iff_le, show bytesS T_fareboxref10_Right 22 = 8 from rfl] at *
    all_goals have h14 : (numsP p).length = 14 := rfl
    all_goals try (
      have hex := ‹IRr _ _›
      obtain ⟨j, hj, rfl, ho⟩ := hex
      try simp only [Int.toNat_natCast] at *)
    all_goals try (refine Vc.mk ?_; first | omega | (simp only [List.length_cons, List.length_nil]; omega))
    all_goals try (exact ⟨⟨0, by omega, rfl, rfl⟩⟩)
    all_goals try (
      obtain rfl : j = 14
      · omega
      exact Res.mk ho.symm)
    all_goals have hN := okN_iff (ns := numsP p) (k := j) (by omega)
    all_goals try (
      refine Res.mk (bad_right (k := j) (by omega) (fun h => ?_))
      have hq := hN.1 h
      split at hq <;> omega)
    all_goals (
      refine ⟨⟨j + 1, by omega, by rw [wrap64] <;> omega, ?_⟩, by rw [wrap64] <;> omega⟩
      rw [okUp, ho, Bool.true_and]
      refine hN.2 ⟨?_, by assumption⟩
      split <;> omega)
  · exact h.fail.elim

def T_fareboxref10_Of : TT := [(3, ⟨.int .i64, 1, 8, [.int .i64 0], some .int⟩),
  (4, ⟨.bool, 1, 1, [.bool false], some .bool⟩),
  (22, ⟨.slice 3, 1, 24, [.slice none 0 0], none⟩),
  (39, ⟨.int .i64, 1, 8, [.int .i64 0], some .int⟩),
  (41, ⟨.strct [(0, 39), (1, 3), (2, 3), (3, 3), (4, 3), (5, 3), (6, 3), (7, 3), (8, 4), (9, 3), (10, 3), (11, 3), (12, 3), (13, 4)], 14, 112, [.int .i64 0, .int .i64 0, .int .i64 0, .int .i64 0, .int .i64 0, .int .i64 0, .int .i64 0, .int .i64 0, .bool false, .int .i64 0, .int .i64 0, .int .i64 0, .int .i64 0, .bool false], some .product⟩)]
theorem tOk_fareboxref10_Of : TOk Try.prog T_fareboxref10_Of := tOk_of (by kernel_rfl)
def sp_fareboxref10_Of : Spec := fun args hp => match args, hp with
  | [.slF 0], [(0, .row o_n .int n)] => .vc (n.length = 14) (svProduct (prodN n)) []
  | _, _ => .fail "fareboxref10_Of"
abbrev k_fareboxref10_Of : List (Option RK) := [some .int]
def a_fareboxref10_Of : List SV → List (Nat × VB) → Anns := fun _ _ => []
set_option maxHeartbeats 20000000 in
theorem ok_fareboxref10_Of : GOk Try.prog 94 (lift k_fareboxref10_Of sp_fareboxref10_Of) := by
  refine pf_ok (T := T_fareboxref10_Of) (Γ := []) tOk_fareboxref10_Of (gOks_nil _) mixed Try.func94 (c := body Try.f94) (by kernel_rfl) (by kernel_rfl) k_fareboxref10_Of sp_fareboxref10_Of (by kernel_rfl) (by kernel_rfl) a_fareboxref10_Of ?_
  intro args hp s u hfit h
  unfold sp_fareboxref10_Of at h
  split at h
  · rename_i o_n n
    obtain ⟨hvc, rfl, rfl⟩ := h.vc
    clear h hfit
    change List Int at n
    conv => whnf
    repeat' (first
      | (refine And.intro ?_ ?_ <;> try conv => whnf)
      | (intro hh; first | (cases hh; done) | conv => whnf))
    all_goals try first | rfl | kernel_rfl
    all_goals try simp only [decide_eq_true_eq, decide_eq_false_iff_not] at *
    all_goals try simp only [Key_eta, Share_eta, Journey_eta, Batch_eta, FieldT_eta, OpB_eta, Product_eta, Item_eta, Delta_eta, Elem_eta, Rule_eta, Do10_eta, Key_beq, Share_beq, Journey_beq, FieldT_beq, Product_beq, Item_beq, Do10_beq, toNat0, toNat1, toNat2, toNat3, toNat4, toNat5, toNat6, toNat7, toNat8, toNat9, toNat10, toNat11, toNat12, toNat13, toNat14, toNat15, toNat16, toNat17, toNat18, toNat19, iA, iOf, atS, rwA, castK, zK, true_and, and_true, decide_eq_true_eq, decide_eq_false_iff_not, beq_iff_eq, bne_iff_ne, beq_eq_false_iff_ne, bne_eq_false_iff_eq, Bool.not_eq_true', Bool.not_eq_false', Bool.not_eq_true, Bool.not_eq_false, Nat.succ_eq_add_one, Int.not_lt, Int.not_le, gt_iff_lt, ge_iff_le, show bytesS T_fareboxref10_Of 22 = 8 from rfl] at *
    all_goals first | (refine Vc.mk ?_; omega) | (refine Res.mk ?_; simp [prodN])
  · exact h.fail.elim

def T_fareboxref04_Int : TT := [(3, ⟨.int .i64, 1, 8, [.int .i64 0], some .int⟩),
  (4, ⟨.bool, 1, 1, [.bool false], some .bool⟩),
  (5, ⟨.int .u8, 1, 1, [.int .u8 0], some .u8⟩),
  (43, ⟨.slice 5, 1, 24, [.slice none 0 0], none⟩)]
theorem tOk_fareboxref04_Int : TOk Try.prog T_fareboxref04_Int := tOk_of (by kernel_rfl)
def sp_fareboxref04_Int : Spec := fun args hp => match args, hp with
  | [.slF 0], [(0, .row o_b .u8 b)] => .vc (isB b ∧ b.length ≤ 1048576) (.tup [iv (intV b), iv (intE b)]) []
  | _, _ => .fail "fareboxref04_Int"
abbrev k_fareboxref04_Int : List (Option RK) := [some .u8]
def a_fareboxref04_Int : List SV → List (Nat × VB) → Anns := fun args hp => match args, hp with
  | [.slF 0], [(0, .row o_b .u8 b)] => [(7, fun S => .inv [] [] [] fun ids vs rs => { cars := [.i 5 .i64, .i 4 .i64], inv := fun ((i, n, _) : Int × Int × Unit) => IRI b i n, mu := fun ((i, n, _) : Int × Int × Unit) => b.length - i.toNat })]
  | _, _ => []
set_option maxHeartbeats 20000000 in
theorem ok_fareboxref04_Int : GOk Try.prog 93 (lift k_fareboxref04_Int sp_fareboxref04_Int) := by
  refine pf_ok (T := T_fareboxref04_Int) (Γ := []) tOk_fareboxref04_Int (gOks_nil _) mixed Try.func93 (c := body Try.f93) (by kernel_rfl) (by kernel_rfl) k_fareboxref04_Int sp_fareboxref04_Int (by kernel_rfl) (by kernel_rfl) a_fareboxref04_Int ?_
  intro args hp s u hfit h
  unfold sp_fareboxref04_Int at h
  split at h
  · rename_i o_b b
    obtain ⟨hvc, rfl, rfl⟩ := h.vc
    clear h hfit
    change List Int at b
    conv => whnf
    repeat' (first
      | (refine And.intro ?_ ?_ <;> try conv => whnf)
      | (intro hh; first | (cases hh; done) | conv => whnf))
    all_goals try first | rfl | kernel_rfl
    all_goals try simp only [decide_eq_true_eq, decide_eq_false_iff_not] at *
    all_goals try simp only [Key_eta, Share_eta, Journey_eta, Batch_eta, FieldT_eta, OpB_eta, Product_eta, Item_eta, Delta_eta, Elem_eta, Rule_eta, Do10_eta, Key_beq, Share_beq, Journey_beq, FieldT_beq, Product_beq, Item_beq, Do10_beq, toNat0, toNat1, toNat2, toNat3, toNat4, toNat5, toNat6, toNat7, toNat8, toNat9, toNat10, toNat11, toNat12, toNat13, toNat14, toNat15, toNat16, toNat17, toNat18, toNat19, iA, iOf, atS, rwA, castK, zK, true_and, and_true, decide_eq_true_eq, decide_eq_false_iff_not, beq_iff_eq, bne_iff_ne, beq_eq_false_iff_ne, bne_eq_false_iff_eq, Bool.not_eq_true', Bool.not_eq_false', Bool.not_eq_true, Bool.not_eq_false, Nat.succ_eq_add_one, Int.not_lt, Int.not_le, gt_iff_lt, ge_iff_le, show bytesS T_fareboxref04_Int 43 = 1 from rfl] at *
    all_goals obtain ⟨hB, hL⟩ := hvc
    all_goals try (
      have hex := ‹IRI _ _ _›
      obtain ⟨j, hj, rfl, rfl⟩ := hex
      try simp only [Int.toNat_natCast] at *)
    all_goals try (refine Vc.mk ?_; first | decide | omega)
    all_goals try (
      have h11 : intE b = 11 := if_pos (by omega)
      exact Res.mk (by simp [intV, h11]))
    all_goals try (
      have h12 : intE b = 12 := by unfold intE; rw [if_neg (by omega), if_pos (by omega)]
      exact Res.mk (by simp [intV, h12]))
    all_goals try (exact ⟨⟨0, Nat.zero_le _, rfl, rfl⟩⟩)
    all_goals try (
      have h0 : intE b = 0 := by unfold intE; rw [if_neg (by omega), if_neg (by omega)]
      obtain rfl : j = b.length
      · omega
      rw [List.take_length]
      exact Res.mk (by simp [intV, h0]))
    all_goals (
      have hx := hB.getD j
      have hn := num_lt (hB.take j)
      have hb := num_take7 hB (show j ≤ 6 by omega)
      refine ⟨⟨j + 1, by omega, by rw [wrap64] <;> omega, ?_⟩, by rw [wrap64] <;> omega⟩
      rw [wrap64 (n := 256 * _) (by omega) (by omega), wrap64 (n := b.getD j 0) (by omega) (by omega), wrap64 (by omega) (by omega), take_succ (by omega), num_snoc])
  · exact h.fail.elim

end Go.Proofs.Ytgajbggdamlhlaa.Sx
