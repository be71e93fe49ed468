import Derived.Test.YtncdakkigkmfjaaProg
import Derived.Test.YtncdakkigkmfjaaSxU
import Derived.IntWalk
import Derived.Test.YtncdakkigkmfjaaF4s4
/-! fare, its laws -/
namespace Go.Proofs.Ytncdakkigkmfjaa.Sx
open Go
set_option linter.unusedVariables false
set_option linter.unusedSimpArgs false
set_option maxRecDepth 100000

def T_fareboxlaw13_FareTotals : TT := [(3, ⟨.int .i64, 1, 8, [.int .i64 0], some .int⟩),
  (4, ⟨.bool, 1, 1, [.bool false], some .bool⟩),
  (5, ⟨.int .u8, 1, 1, [.int .u8 0], some .u8⟩),
  (9, ⟨.str, 1, 16, [.string .empty], some .str⟩),
  (27, ⟨.int .i64, 1, 8, [.int .i64 0], none⟩),
  (40, ⟨.int .i64, 1, 8, [.int .i64 0], none⟩),
  (54, ⟨.slice 73, 1, 24, [.slice none 0 0], none⟩),
  (57, ⟨.slice 5, 1, 24, [.slice none 0 0], none⟩),
  (73, ⟨.strct [(0, 3), (1, 3), (2, 3), (3, 3), (4, 3), (5, 40), (6, 3), (7, 3), (8, 3), (9, 3)], 10, 80, [.int .i64 0, .int .i64 0, .int .i64 0, .int .i64 0, .int .i64 0, .int .i64 0, .int .i64 0, .int .i64 0, .int .i64 0, .int .i64 0], some .journey⟩)]
theorem tOk_fareboxlaw13_FareTotals : TOk Try.prog T_fareboxlaw13_FareTotals := tOk_of (by kernel_rfl)
def sp_fareboxlaw13_FareTotals : Spec := fun args hp => match args, hp with
  | [.slF 0, .slF 1], [(0, .row o_a .journey a), (1, .row o_b .journey b)] => .vc (a.length ≤ 1048576 ∧ b.length ≤ 1048576) (bv true) []
  | _, _ => .fail "fareboxlaw13_FareTotals"
abbrev k_fareboxlaw13_FareTotals : List (Option RK) := [some .journey, some .journey]
def a_fareboxlaw13_FareTotals : List SV → List (Nat × VB) → Anns := fun _ _ => []
set_option maxHeartbeats 20000000 in
theorem ok_fareboxlaw13_FareTotals : GOk Try.prog 13 (lift k_fareboxlaw13_FareTotals sp_fareboxlaw13_FareTotals) := by
  refine pf_ok (T := T_fareboxlaw13_FareTotals) (Γ := (29, lift k_fareboxlaw13_awake sp_fareboxlaw13_awake) :: (52, lift k_fare_Put sp_fare_Put) :: (53, lift k_fare_Total sp_fare_Total) :: []) tOk_fareboxlaw13_FareTotals (gOks_cons ok_fareboxlaw13_awake (gOks_cons ok_fare_Put (gOks_cons ok_fare_Total (gOks_nil _)))) mixed Try.func13 (c := body Try.f13) (by kernel_rfl) (by kernel_rfl) k_fareboxlaw13_FareTotals sp_fareboxlaw13_FareTotals (by kernel_rfl) (by kernel_rfl) a_fareboxlaw13_FareTotals ?_
  intro args hp s u hfit h
  unfold sp_fareboxlaw13_FareTotals at h
  split at h
  · rename_i o_a a o_b b
    obtain ⟨hvc, rfl, rfl⟩ := h.vc
    clear h hfit
    change List Journey at a
    change List Journey at b
    conv => whnf
    repeat' (first
      | (refine And.intro ?_ ?_ <;> try conv => whnf)
      | (intro hh; first | (cases hh; done) | conv => whnf))
    all_goals try first | rfl | kernel_rfl
    all_goals try simp only [decide_eq_true_eq, decide_eq_false_iff_not] at *
    all_goals try simp only [Key_eta, Share_eta, Journey_eta, Batch_eta, FieldT_eta, OpB_eta, Product_eta, Key_beq, Share_beq, Journey_beq, FieldT_beq, Product_beq, toNat0, toNat1, toNat2, toNat3, toNat4, toNat5, toNat6, toNat7, toNat8, toNat9, toNat10, toNat11, toNat12, toNat13, toNat14, toNat15, toNat16, toNat17, toNat18, toNat19, iA, iOf, atS, zK, true_and, and_true, decide_eq_true_eq, decide_eq_false_iff_not, beq_iff_eq, bne_iff_ne, beq_eq_false_iff_ne, bne_eq_false_iff_eq, Bool.not_eq_true', Bool.not_eq_false', Bool.not_eq_true, Bool.not_eq_false, Nat.succ_eq_add_one, Int.not_lt, Int.not_le, gt_iff_lt, ge_iff_le, show bytesS T_fareboxlaw13_FareTotals 54 = 80 from rfl, show bytesS T_fareboxlaw13_FareTotals 57 = 1 from rfl] at *
    all_goals obtain ⟨hla, hlb⟩ := hvc
    all_goals try simp only [List.nil_append] at *
    all_goals have t1 := totV_le a
    all_goals have t2 := totV_le b
    all_goals have f1 := form_length a
    all_goals have f2 := form_length b
    all_goals have t3 := totV_append' a b
    all_goals cases ha : good a <;> cases hb : good b
    all_goals try simp only [putJE, totE, putJ, good_append, ha, hb, Bool.and_true, Bool.true_and, Bool.and_false, Bool.false_and, if_true, if_false, Bool.false_eq_true, form_append, bytesStr_append, bytesStr_size, List.length_append, List.length_nil] at *
    all_goals try (exact Res.mk trivial)
    all_goals try (refine Vc.mk ?_; omega)
    all_goals try (exact absurd rfl ‹(0 : Int) ≠ 0›)
    all_goals try (exact absurd rfl ‹(2 : Int) ≠ 2›)
    all_goals try (exact absurd rfl ‹_ ≠ _›)
    all_goals first
      | (exfalso; omega)
      | (refine Res.mk ?_; omega)
      | (refine Res.mk ?_; rw [t3, wrap64 (by omega) (by omega)])
  · exact h.fail.elim

end Go.Proofs.Ytncdakkigkmfjaa.Sx
