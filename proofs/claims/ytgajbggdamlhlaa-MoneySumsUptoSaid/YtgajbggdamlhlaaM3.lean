import Derived.Test.YtgajbggdamlhlaaProg
import Derived.Test.YtgajbggdamlhlaaSxU
import Derived.IntWalk
import Derived.Test.YtgajbggdamlhlaaM3r
/-! fareboxref05, Split -/
namespace Go.Proofs.Ytgajbggdamlhlaa.Sx
open Go
set_option linter.unusedVariables false
set_option linter.unusedSimpArgs false
set_option maxRecDepth 100000

def T_fareboxlaw05_awake : TT := [(3, ⟨.int .i64, 1, 8, [.int .i64 0], some .int⟩),
  (4, ⟨.bool, 1, 1, [.bool false], some .bool⟩),
  (22, ⟨.slice 3, 1, 24, [.slice none 0 0], none⟩),
  (24, ⟨.int .i64, 1, 8, [.int .i64 0], none⟩)]
theorem tOk_fareboxlaw05_awake : TOk Try.prog T_fareboxlaw05_awake := tOk_of (by kernel_rfl)
def sp_fareboxlaw05_awake : Spec := fun args hp => match args, hp with
  | [], [] => .ok (bv true) []
  | _, _ => .fail "fareboxlaw05_awake"
abbrev k_fareboxlaw05_awake : List (Option RK) := []
def a_fareboxlaw05_awake : List SV → List (Nat × VB) → Anns := fun _ _ => []
set_option maxHeartbeats 20000000 in
theorem ok_fareboxlaw05_awake : GOk Try.prog 15 (lift k_fareboxlaw05_awake sp_fareboxlaw05_awake) := by
  refine pf_ok (T := T_fareboxlaw05_awake) (Γ := (16, lift k_money_Split sp_money_Split) :: (17, lift k_money_Sum sp_money_Sum) :: []) tOk_fareboxlaw05_awake (gOks_cons ok_money_Split (gOks_cons ok_money_Sum (gOks_nil _))) mixed Try.func15 (c := body Try.f15) (by kernel_rfl) (by kernel_rfl) k_fareboxlaw05_awake sp_fareboxlaw05_awake (by kernel_rfl) (by kernel_rfl) a_fareboxlaw05_awake ?_
  intro args hp s u hfit h
  unfold sp_fareboxlaw05_awake at h
  split at h
  · skip
    obtain ⟨rfl, rfl⟩ := h.ok
    clear h hfit
    conv => whnf
    repeat' (first
      | (refine And.intro ?_ ?_ <;> try conv => whnf)
      | (intro hh; first | (cases hh; done) | conv => whnf))
    all_goals try first | rfl | kernel_rfl
    all_goals try simp only [decide_eq_true_eq, decide_eq_false_iff_not] at *
    all_goals try simp only [Key_eta, Share_eta, Journey_eta, Batch_eta, FieldT_eta, OpB_eta, Product_eta, Key_beq, Share_beq, Journey_beq, FieldT_beq, Product_beq, toNat0, toNat1, toNat2, toNat3, toNat4, toNat5, toNat6, toNat7, toNat8, toNat9, toNat10, toNat11, toNat12, toNat13, toNat14, toNat15, toNat16, toNat17, toNat18, toNat19, iA, iOf, atS, rwA, castK, zK, true_and, and_true, decide_eq_true_eq, decide_eq_false_iff_not, beq_iff_eq, bne_iff_ne, beq_eq_false_iff_ne, bne_eq_false_iff_eq, Bool.not_eq_true', Bool.not_eq_false', Bool.not_eq_true, Bool.not_eq_false, Nat.succ_eq_add_one, Int.not_lt, Int.not_le, gt_iff_lt, ge_iff_le, show bytesS T_fareboxlaw05_awake 22 = 8 from rfl] at *
    all_goals (
      obtain ⟨e1, e2, e3, e4⟩ := awk1
      simp only [e1, e2, e3, e4] at *)
    all_goals first
      | exact Res.mk trivial
      | exact Res.mk rfl
      | exact Vc.mk (by decide)
      | exact Vc.mk ⟨by decide, by decide⟩
      | (exfalso; simp at *; done)
  · exact h.fail.elim

end Go.Proofs.Ytgajbggdamlhlaa.Sx
