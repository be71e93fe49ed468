import Derived.Test.YtncdakkigkmfjaaProg
import Derived.Test.YtncdakkigkmfjaaSxU
import Derived.IntWalk
import Derived.Test.YtncdakkigkmfjaaF1s0
/-! bits -/
namespace Go.Proofs.Ytncdakkigkmfjaa.Sx
open Go
set_option linter.unusedVariables false
set_option linter.unusedSimpArgs false
set_option maxRecDepth 100000

def T_bits_right : TT := [(3, ⟨.int .i64, 1, 8, [.int .i64 0], some .int⟩),
  (4, ⟨.bool, 1, 1, [.bool false], some .bool⟩),
  (112, ⟨.strct [(0, 3), (1, 3)], 2, 16, [.int .i64 0, .int .i64 0], some .fieldT⟩)]
theorem tOk_bits_right : TOk Try.prog T_bits_right := tOk_of (by kernel_rfl)
def sp_bits_right : Spec := fun args hp => match args, hp with
  | [.agg f_cs], [] => (match decS .fieldT f_cs with
    | some f => .ok (bv (rightF f)) []
    | none => .fail "struct")
  | _, _ => .fail "bits_right"
abbrev k_bits_right : List (Option RK) := [none]
def a_bits_right : List SV → List (Nat × VB) → Anns := fun _ _ => []
set_option maxHeartbeats 20000000 in
theorem ok_bits_right : GOk Try.prog 89 (lift k_bits_right sp_bits_right) := by
  refine pf_ok (T := T_bits_right) (Γ := []) tOk_bits_right (gOks_nil _) mixed Try.func89 (c := body Try.f89) (by kernel_rfl) (by kernel_rfl) k_bits_right sp_bits_right (by kernel_rfl) (by kernel_rfl) a_bits_right ?_
  intro args hp s u hfit h
  unfold sp_bits_right at h
  split at h
  · rename_i f_cs
    split at h
    case h_2 => exact h.fail.elim
    rename_i f h_f
    obtain rfl := decS_ok (k := .fieldT) rfl h_f
    clear h_f
    change FieldT at f
    obtain ⟨rfl, rfl⟩ := h.ok
    clear h hfit
    conv => whnf
    repeat' (first
      | (refine And.intro ?_ ?_ <;> try conv => whnf)
      | (intro hh; first | (cases hh; done) | conv => whnf))
    all_goals try first | rfl | kernel_rfl
    all_goals try simp only [decide_eq_true_eq, decide_eq_false_iff_not] at *
    all_goals try simp only [Key_eta, Share_eta, Journey_eta, Batch_eta, FieldT_eta, OpB_eta, Product_eta, Key_beq, Share_beq, Journey_beq, FieldT_beq, Product_beq, toNat0, toNat1, toNat2, toNat3, toNat4, toNat5, toNat6, toNat7, toNat8, toNat9, toNat10, toNat11, toNat12, toNat13, toNat14, toNat15, toNat16, toNat17, toNat18, toNat19, iA, iOf, atS, zK, true_and, and_true, decide_eq_true_eq, decide_eq_false_iff_not, beq_iff_eq, bne_iff_ne, beq_eq_false_iff_ne, bne_eq_false_iff_eq, Bool.not_eq_true', Bool.not_eq_false', Bool.not_eq_true, Bool.not_eq_false, Nat.succ_eq_add_one, Int.not_lt, Int.not_le, gt_iff_lt, ge_iff_le] at *
    all_goals first
      | (refine Vc.mk ?_; omega)
      | (refine Res.mk ?_; rw [Bool.eq_iff_iff]; simp [rightF, *]; first | exact shr_zero ‹_› ‹_› ‹_› | omega)
  · exact h.fail.elim

end Go.Proofs.Ytncdakkigkmfjaa.Sx
