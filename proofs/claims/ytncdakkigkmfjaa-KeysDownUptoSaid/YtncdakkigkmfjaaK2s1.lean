import Derived.Test.YtncdakkigkmfjaaProg
import Derived.Test.YtncdakkigkmfjaaSxU
import Derived.IntWalk
import Derived.Test.YtncdakkigkmfjaaK2s0
/-! fareboxref09 -/
namespace Go.Proofs.Ytncdakkigkmfjaa.Sx
open Go
set_option linter.unusedVariables false
set_option linter.unusedSimpArgs false
set_option maxRecDepth 100000

def T_fareboxref09_Right : TT := [(3, ⟨.int .i64, 1, 8, [.int .i64 0], some .int⟩),
  (4, ⟨.bool, 1, 1, [.bool false], some .bool⟩),
  (23, ⟨.strct [(0, 3), (1, 3), (2, 3), (3, 3)], 4, 32, [.int .i64 0, .int .i64 0, .int .i64 0, .int .i64 0], some .key⟩),
  (104, ⟨.arr 3 3, 3, 24, [.int .i64 0, .int .i64 0, .int .i64 0], none⟩)]
theorem tOk_fareboxref09_Right : TOk Try.prog T_fareboxref09_Right := tOk_of (by kernel_rfl)
def sp_fareboxref09_Right : Spec := fun args hp => match args, hp with
  | [.agg k_cs], [] => (match decS .key k_cs with
    | some k => .ok (bv (right k)) []
    | none => .fail "struct")
  | _, _ => .fail "fareboxref09_Right"
abbrev k_fareboxref09_Right : List (Option RK) := [none]
def a_fareboxref09_Right : List SV → List (Nat × VB) → Anns := fun args hp => match args, hp with
  | [.agg k_cs], [] => (match decS .key k_cs with
    | some k => [(4, fun S => .inv [] [] fun ids vs => { cars := [.i 5 .i64], inv := fun ((i, _) : Int × Unit) => ∃ j : Nat, j ≤ 3 ∧ i = j ∧ goodK k j, mu := fun ((i, _) : Int × Unit) => 3 - i.toNat })]
    | none => [])
  | _, _ => []
set_option maxHeartbeats 20000000 in
theorem ok_fareboxref09_Right : GOk Try.prog 20 (lift k_fareboxref09_Right sp_fareboxref09_Right) := by
  refine pf_ok (T := T_fareboxref09_Right) (Γ := (61, lift k_fareboxref09_Row sp_fareboxref09_Row) :: []) tOk_fareboxref09_Right (gOks_cons ok_fareboxref09_Row (gOks_nil _)) mixed Try.func20 (c := body Try.f20) (by kernel_rfl) (by kernel_rfl) k_fareboxref09_Right sp_fareboxref09_Right (by kernel_rfl) (by kernel_rfl) a_fareboxref09_Right ?_
  intro args hp s u hfit h
  unfold sp_fareboxref09_Right at h
  split at h
  · rename_i k_cs
    split at h
    case h_2 => exact h.fail.elim
    rename_i k h_k
    obtain rfl := decS_ok (k := .key) rfl h_k
    clear h_k
    change Key at k
    obtain ⟨rfl, rfl⟩ := h.ok
    clear h hfit
    conv => whnf
    repeat' (first
      | (refine And.intro ?_ ?_ <;> try conv => whnf)
      | (intro hh; first | (cases hh; done) | conv => whnf))
    all_goals try first | rfl | kernel_rfl
    all_goals try simp only [Key_eta, Share_eta, Journey_eta, Batch_eta, FieldT_eta, OpB_eta, Product_eta, Key_beq, Share_beq, Journey_beq, FieldT_beq, Product_beq, toNat0, toNat1, toNat2, toNat3, toNat4, toNat5, toNat6, toNat7, toNat8, toNat9, toNat10, toNat11, toNat12, toNat13, toNat14, toNat15, toNat16, toNat17, toNat18, toNat19, iA, iOf, atS, zK, true_and, and_true, decide_eq_true_eq, decide_eq_false_iff_not, beq_iff_eq, bne_iff_ne, beq_eq_false_iff_ne, bne_eq_false_iff_eq, Bool.not_eq_true', Bool.not_eq_false', Bool.not_eq_true, Bool.not_eq_false, Nat.succ_eq_add_one, Int.not_lt, Int.not_le, gt_iff_lt, ge_iff_le] at *
    all_goals first
      | exact ⟨⟨0, by omega, rfl, by unfold goodK; omega⟩⟩
      | (obtain ⟨j, hj, rfl, hg⟩ := ‹∃ j : Nat, j ≤ 3 ∧ _ = _ ∧ _›
         first
         | (refine Vc.mk ?_; (try simp (disch := omega) only [wrap64, List.length_cons, List.length_nil]) <;> omega)
         | (have hj' : j = 0 ∨ j = 1 ∨ j = 2 ∨ j = 3 := by omega
            unfold goodK at hg
            rcases hj' with rfl | rfl | rfl | rfl
            all_goals
              try simp (disch := omega) only [wrap64] at *
              first
              | (refine ⟨⟨1, ?_, ?_, ?_⟩, ?_⟩ <;> (try unfold goodK) <;> (try simp at *) <;> omega)
              | (refine ⟨⟨2, ?_, ?_, ?_⟩, ?_⟩ <;> (try unfold goodK) <;> (try simp at *) <;> omega)
              | (refine ⟨⟨3, ?_, ?_, ?_⟩, ?_⟩ <;> (try unfold goodK) <;> (try simp at *) <;> omega)
              | (exfalso; (try simp at *) <;> omega)
              | (refine ⟨?_⟩; rw [Bool.eq_iff_iff]; simp [right]; (try simp at *) <;> omega)))
  · exact h.fail.elim

end Go.Proofs.Ytncdakkigkmfjaa.Sx
