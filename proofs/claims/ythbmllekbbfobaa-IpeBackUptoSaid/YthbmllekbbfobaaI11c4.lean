import Derived.Test.YthbmllekbbfobaaProg
import Derived.Test.YthbmllekbbfobaaSxU
import Derived.IntWalk
import Derived.Test.YthbmllekbbfobaaI11c3
/-! ipe, Body -/
namespace Go.Proofs.Ythbmllekbbfobaa.Sx
open Go
set_option linter.unusedVariables false
set_option linter.unusedSimpArgs false
set_option maxRecDepth 100000

def T_fareboxlaw10_IpeForms : TT := [(3, ⟨.int .i64, 1, 8, [.int .i64 0], some .int⟩),
  (4, ⟨.bool, 1, 1, [.bool false], some .bool⟩),
  (5, ⟨.int .u8, 1, 1, [.int .u8 0], some .u8⟩),
  (9, ⟨.str, 1, 16, [.string .empty], some .str⟩),
  (25, ⟨.slice 5, 1, 24, [.slice none 0 0], none⟩),
  (27, ⟨.int .i64, 1, 8, [.int .i64 0], some .int⟩),
  (56, ⟨.int .i64, 1, 8, [.int .i64 0], some .int⟩),
  (58, ⟨.strct [(0, 56), (1, 3), (2, 3), (3, 3), (4, 3), (5, 3), (6, 3), (7, 3), (8, 4), (9, 3), (10, 3), (11, 3), (12, 3), (13, 4)], 14, 112, [.int .i64 0, .int .i64 0, .int .i64 0, .int .i64 0, .int .i64 0, .int .i64 0, .int .i64 0, .int .i64 0, .bool false, .int .i64 0, .int .i64 0, .int .i64 0, .int .i64 0, .bool false], some .product⟩),
  (59, ⟨.int .i64, 1, 8, [.int .i64 0], some .int⟩),
  (164, ⟨.slice 58, 1, 24, [.slice none 0 0], none⟩)]
theorem tOk_fareboxlaw10_IpeForms : TOk Try.prog T_fareboxlaw10_IpeForms := tOk_of (by kernel_rfl)
def sp_fareboxlaw10_IpeForms : Spec := fun args hp => match args, hp with
  | [.agg p_cs, .val (.int .i64 t)], [] => (match decS .product p_cs with
    | some p => .vc (-9223372036854775808 ≤ t ∧ t ≤ 9223372036854775807) (bv true) []
    | none => .fail "struct")
  | _, _ => .fail "fareboxlaw10_IpeForms"
abbrev k_fareboxlaw10_IpeForms : List (Option RK) := [none, none]
def a_fareboxlaw10_IpeForms : List SV → List (Nat × VB) → Anns := fun _ _ => []
set_option maxHeartbeats 20000000 in
theorem ok_fareboxlaw10_IpeForms : GOk Try.prog 6 (lift k_fareboxlaw10_IpeForms sp_fareboxlaw10_IpeForms) := by
  refine pf_ok (T := T_fareboxlaw10_IpeForms) (Γ := (26, lift k_fareboxlaw10_awake sp_fareboxlaw10_awake) :: (31, lift k_fareboxlaw10_purse sp_fareboxlaw10_purse) :: (27, lift k_ipe_Form sp_ipe_Form) :: (28, lift k_ipe_Body sp_ipe_Body) :: (29, lift k_fareboxref10_Right sp_fareboxref10_Right) :: (30, lift k_ipe_Right sp_ipe_Right) :: (32, lift k_fareboxref10_Form sp_fareboxref10_Form) :: (33, lift k_fareboxref10_Body sp_fareboxref10_Body) :: []) tOk_fareboxlaw10_IpeForms (gOks_cons ok_fareboxlaw10_awake (gOks_cons ok_fareboxlaw10_purse (gOks_cons ok_ipe_Form (gOks_cons ok_ipe_Body (gOks_cons ok_fareboxref10_Right (gOks_cons ok_ipe_Right (gOks_cons ok_fareboxref10_Form (gOks_cons ok_fareboxref10_Body (gOks_nil _))))))))) mixed Try.func6 (c := body Try.f6) (by kernel_rfl) (by kernel_rfl) k_fareboxlaw10_IpeForms sp_fareboxlaw10_IpeForms (by kernel_rfl) (by kernel_rfl) a_fareboxlaw10_IpeForms ?_
  intro args hp s u hfit h
  unfold sp_fareboxlaw10_IpeForms at h
  split at h
  · rename_i p_cs t
    split at h
    case h_2 => exact h.fail.elim
    rename_i p h_p
    obtain rfl := decS_ok (k := .product) rfl h_p
    clear h_p
    change Product at p
    obtain ⟨hvc, rfl, rfl⟩ := h.vc
    clear h hfit
    conv => whnf
    repeat' (first
      | (refine And.intro ?_ ?_ <;> try conv => whnf)
      | (intro hh; first | (cases hh; done) | conv => whnf))
    all_goals try first | rfl | kernel_rfl
    all_goals try simp only [decide_eq_true_eq, decide_eq_false_iff_not] at *
    all_goals try simp only [Key_eta, Share_eta, Journey_eta, Batch_eta, FieldT_eta, OpB_eta, Product_eta, Item_eta, Delta_eta, Elem_eta, Rule_eta, Do10_eta, Key_beq, Share_beq, Journey_beq, FieldT_beq, Product_beq, Item_beq, Do10_beq, toNat0, toNat1, toNat2, toNat3, toNat4, toNat5, toNat6, toNat7, toNat8, toNat9, toNat10, toNat11, toNat12, toNat13, toNat14, toNat15, toNat16, toNat17, toNat18, toNat19, iA, iOf, atS, rwA, castK, zK, true_and, and_true, decide_eq_true_eq, decide_eq_false_iff_not, beq_iff_eq, bne_iff_ne, beq_eq_false_iff_ne, bne_eq_false_iff_eq, Bool.not_eq_true', Bool.not_eq_false', Bool.not_eq_true, Bool.not_eq_false, Nat.succ_eq_add_one, Int.not_lt, Int.not_le, gt_iff_lt, ge_iff_le, show bytesS T_fareboxlaw10_IpeForms 25 = 1 from rfl, show bytesS T_fareboxlaw10_IpeForms 164 = 112 from rfl] at *
    all_goals try (refine Vc.mk ?_; first | (simp; done) | assumption | (refine ⟨‹_›, ?_, ?_⟩ <;> omega))
    all_goals refine Res.mk ?_
    all_goals have a1 := all_p1 p
    all_goals have a2 := all_p2 p
    all_goals try (exfalso; first | exact ‹[p].all rightP ≠ rightP p› a1 | exact ‹[purseP, p].all rightP ≠ rightP p› a2)
    all_goals clear a1 a2
    all_goals rcases form_cases p with ⟨r1, r2, r3⟩ | ⟨r1, r2, r3⟩ <;> rcases body_cases p t with ⟨s1, s2, s3, s4, s5⟩ | ⟨s1, s2, s3⟩
    all_goals try (exfalso; omega)
    all_goals try (simp only [r1, r2, r3, s2, s3, s4, s5, ne_eq, not_true_eq_false, reduceCtorEq, List.length_nil] at *; done)
    all_goals try (simp_all; done)
    all_goals try (exfalso; simp_all; omega)
    all_goals trace_state
    all_goals sorry
  · exact h.fail.elim

end Go.Proofs.Ythbmllekbbfobaa.Sx
