import Derived.Test.YthbmllekbbfobaaProg
import Derived.Test.YthbmllekbbfobaaSxU
import Derived.IntWalk
import Derived.Test.YthbmllekbbfobaaR7r
/-! rules, forms -/
namespace Go.Proofs.Ythbmllekbbfobaa.Sx
open Go
set_option linter.unusedVariables false
set_option linter.unusedSimpArgs false
set_option maxRecDepth 100000

def T_fareboxlaw21_RulesForms : TT := [(3, ⟨.int .i64, 1, 8, [.int .i64 0], some .int⟩),
  (4, ⟨.bool, 1, 1, [.bool false], some .bool⟩),
  (5, ⟨.int .u8, 1, 1, [.int .u8 0], some .u8⟩),
  (9, ⟨.str, 1, 16, [.string .empty], some .str⟩),
  (25, ⟨.slice 5, 1, 24, [.slice none 0 0], none⟩),
  (27, ⟨.int .i64, 1, 8, [.int .i64 0], some .int⟩),
  (41, ⟨.slice 3, 1, 24, [.slice none 0 0], none⟩),
  (88, ⟨.strct [(0, 3), (1, 3), (2, 41)], 3, 40, [.int .i64 0, .int .i64 0, .slice none 0 0], some .rule⟩),
  (95, ⟨.slice 88, 1, 24, [.slice none 0 0], none⟩)]
theorem tOk_fareboxlaw21_RulesForms : TOk Try.prog T_fareboxlaw21_RulesForms := tOk_of (by kernel_rfl)
def sp_fareboxlaw21_RulesForms : Spec := fun args hp => match args, hp with
  | [.agg [.val (.int .i64 r_owner), .val (.int .i64 r_op), .slF 0], .slF 1], [(0, .row false .int r_weights), (1, .row o_b .u8 b)] => .vc (b.length ≤ 1048576 ∧ isB b ∧ (⟨r_owner, r_op, r_weights⟩ : Rule).weights.length ≤ 1048576 ∧ ∀ n ∈ (⟨r_owner, r_op, r_weights⟩ : Rule).weights, -9223372036854775808 ≤ n ∧ n ≤ 9223372036854775807) (bv true) []
  | _, _ => .fail "fareboxlaw21_RulesForms"
abbrev k_fareboxlaw21_RulesForms : List (Option RK) := [none, some .u8]
def a_fareboxlaw21_RulesForms : List SV → List (Nat × VB) → Anns := fun _ _ => []
set_option maxHeartbeats 20000000 in
theorem ok_fareboxlaw21_RulesForms : GOk Try.prog 13 (lift k_fareboxlaw21_RulesForms sp_fareboxlaw21_RulesForms) := by
  refine pf_ok (T := T_fareboxlaw21_RulesForms) (Γ := (41, lift k_fareboxlaw21_awake sp_fareboxlaw21_awake) :: (44, lift k_fareboxlaw21_copied sp_fareboxlaw21_copied) :: (53, lift k_rules_Form sp_rules_Form) :: (46, lift k_fareboxref21_Right sp_fareboxref21_Right) :: (54, lift k_rules_Read sp_rules_Read) :: (55, lift k_fareboxref21_Form sp_fareboxref21_Form) :: (51, lift k_fareboxref21_Ints sp_fareboxref21_Ints) :: (56, lift k_fareboxref21_Read sp_fareboxref21_Read) :: []) tOk_fareboxlaw21_RulesForms (gOks_cons ok_fareboxlaw21_awake (gOks_cons ok_fareboxlaw21_copied (gOks_cons ok_rules_Form (gOks_cons ok_fareboxref21_Right (gOks_cons ok_rules_Read (gOks_cons ok_fareboxref21_Form (gOks_cons ok_fareboxref21_Ints (gOks_cons ok_fareboxref21_Read (gOks_nil _))))))))) mixed Try.func13 (c := body Try.f13) (by kernel_rfl) (by kernel_rfl) k_fareboxlaw21_RulesForms sp_fareboxlaw21_RulesForms (by kernel_rfl) (by kernel_rfl) a_fareboxlaw21_RulesForms ?_
  intro args hp s u hfit h
  unfold sp_fareboxlaw21_RulesForms at h
  split at h
  · rename_i r_owner r_op r_weights o_b b
    obtain ⟨hvc, rfl, rfl⟩ := h.vc
    clear h hfit
    change List Int at b
    conv => whnf
    repeat' (first
      | (refine And.intro ?_ ?_ <;> try conv => whnf)
      | (intro hh; first | (cases hh; done) | conv => whnf))
    all_goals try first | rfl | kernel_rfl
    all_goals try simp only [decide_eq_true_eq, decide_eq_false_iff_not] at *
    all_goals try simp only [Key_eta, Share_eta, Journey_eta, Batch_eta, FieldT_eta, OpB_eta, Product_eta, Item_eta, Delta_eta, Elem_eta, Rule_eta, Do10_eta, Ask_eta, Key_beq, Share_beq, Journey_beq, FieldT_beq, Product_beq, Item_beq, Do10_beq, Ask_beq, toNat0, toNat1, toNat2, toNat3, toNat4, toNat5, toNat6, toNat7, toNat8, toNat9, toNat10, toNat11, toNat12, toNat13, toNat14, toNat15, toNat16, toNat17, toNat18, toNat19, iA, iOf, atS, rwA, castK, zK, true_and, and_true, decide_eq_true_eq, decide_eq_false_iff_not, beq_iff_eq, bne_iff_ne, beq_eq_false_iff_ne, bne_eq_false_iff_eq, Bool.not_eq_true', Bool.not_eq_false', Bool.not_eq_true, Bool.not_eq_false, Nat.succ_eq_add_one, Int.not_lt, Int.not_le, gt_iff_lt, ge_iff_le, show bytesS T_fareboxlaw21_RulesForms 25 = 1 from rfl, show bytesS T_fareboxlaw21_RulesForms 41 = 8 from rfl, show bytesS T_fareboxlaw21_RulesForms 95 = 40 from rfl, List.nil_append, List.getD_cons_zero] at *
    all_goals obtain ⟨hL, hB, hW, hR⟩ := hvc
    all_goals have hw := readR_w hB
    all_goals obtain ⟨hw1, hw2⟩ := hw
    all_goals try (
      have hf := formB_no ‹rightR ⟨r_owner, r_op, r_weights⟩ 4 = false›
      simp only [hf.1, hf.2] at *)
    all_goals try (
      have hf := formB_yes ‹rightR ⟨r_owner, r_op, r_weights⟩ 4 = true›
      have hq := form_back ‹rightR ⟨r_owner, r_op, r_weights⟩ 4 = true›
      have hi := formR_isB ⟨r_owner, r_op, r_weights⟩
      have hl := formR_len ⟨r_owner, r_op, r_weights⟩
      have hlw := (rightR_iff.1 ‹rightR ⟨r_owner, r_op, r_weights⟩ 4 = true›).1.2.2.2.2.2
      simp only at hl hlw
      simp only [hf.1, hf.2, hq.1, hq.2] at *)
    all_goals try (
      have hz := read_form hB ‹readE b = 0›
      have hy := formB_yes hz.1
      simp only [hy.1, hy.2, hz.2] at *)
    all_goals try (refine Vc.mk ?_; first | omega | assumption | exact ⟨by omega, hw2⟩ | exact ⟨hB, by omega⟩ | exact ⟨by omega, hW, hR⟩ | exact ⟨hW, hR⟩ | exact ⟨hi, by omega⟩ | exact ⟨by omega, by omega⟩ | (simp only [List.length_nil]; omega))
    all_goals try (exact Res.mk rfl)
    all_goals try (exact Res.mk trivial)
    all_goals try (exfalso; first | contradiction | (simp_all; done))
    · exact Vc.mk ⟨by simp, by simpa using hW⟩
    · exact Vc.mk (by simp)
    · exact Vc.mk (by simp)
  · exact h.fail.elim

end Go.Proofs.Ythbmllekbbfobaa.Sx
