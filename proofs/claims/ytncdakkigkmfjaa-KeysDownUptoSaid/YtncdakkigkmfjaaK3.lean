import Derived.Test.YtncdakkigkmfjaaProg
import Derived.Test.YtncdakkigkmfjaaSxU
import Derived.IntWalk
import Derived.Test.YtncdakkigkmfjaaK3s2
/-! fareboxlaw09 -/
namespace Go.Proofs.Ytncdakkigkmfjaa.Sx
open Go
set_option linter.unusedVariables false
set_option linter.unusedSimpArgs false
set_option maxRecDepth 100000

def T_fareboxlaw09_KeysApart : TT := [(3, ⟨.int .i64, 1, 8, [.int .i64 0], some .int⟩),
  (4, ⟨.bool, 1, 1, [.bool false], some .bool⟩),
  (23, ⟨.strct [(0, 3), (1, 3), (2, 3), (3, 3)], 4, 32, [.int .i64 0, .int .i64 0, .int .i64 0, .int .i64 0], some .key⟩),
  (25, ⟨.slice 23, 1, 24, [.slice none 0 0], none⟩),
  (27, ⟨.int .i64, 1, 8, [.int .i64 0], none⟩)]
theorem tOk_fareboxlaw09_KeysApart : TOk Try.prog T_fareboxlaw09_KeysApart := tOk_of (by kernel_rfl)
def sp_fareboxlaw09_KeysApart : Spec := fun args hp => match args, hp with
  | [.agg a_cs, .agg b_cs], [] => (match decS .key a_cs with
    | some a => (match decS .key b_cs with
    | some b => .ok (bv true) []
    | none => .fail "struct")
    | none => .fail "struct")
  | _, _ => .fail "fareboxlaw09_KeysApart"
abbrev k_fareboxlaw09_KeysApart : List (Option RK) := [none, none]
def a_fareboxlaw09_KeysApart : List SV → List (Nat × VB) → Anns := fun _ _ => []
set_option maxHeartbeats 20000000 in
theorem ok_fareboxlaw09_KeysApart : GOk Try.prog 5 (lift k_fareboxlaw09_KeysApart sp_fareboxlaw09_KeysApart) := by
  refine pf_ok (T := T_fareboxlaw09_KeysApart) (Γ := (15, lift k_fareboxlaw09_awake sp_fareboxlaw09_awake) :: (22, lift k_keys_Right sp_keys_Right) :: (25, lift k_keys_From sp_keys_From) :: (23, lift k_keys_Level sp_keys_Level) :: (26, lift k_keys_Roll sp_keys_Roll) :: []) tOk_fareboxlaw09_KeysApart (gOks_cons ok_fareboxlaw09_awake (gOks_cons ok_keys_Right (gOks_cons ok_keys_From (gOks_cons ok_keys_Level (gOks_cons ok_keys_Roll (gOks_nil _)))))) mixed Try.func5 (c := body Try.f5) (by kernel_rfl) (by kernel_rfl) k_fareboxlaw09_KeysApart sp_fareboxlaw09_KeysApart (by kernel_rfl) (by kernel_rfl) a_fareboxlaw09_KeysApart ?_
  intro args hp s u hfit h
  unfold sp_fareboxlaw09_KeysApart at h
  split at h
  · rename_i a_cs b_cs
    split at h
    case h_2 => exact h.fail.elim
    rename_i a h_a
    obtain rfl := decS_ok (k := .key) rfl h_a
    clear h_a
    change Key at a
    split at h
    case h_2 => exact h.fail.elim
    rename_i b h_b
    obtain rfl := decS_ok (k := .key) rfl h_b
    clear h_b
    change Key at b
    obtain ⟨rfl, rfl⟩ := h.ok
    clear h hfit
    conv => whnf
    repeat' (first
      | (refine And.intro ?_ ?_ <;> try conv => whnf)
      | (intro hh; first | (cases hh; done) | conv => whnf))
    all_goals try first | rfl | kernel_rfl
    all_goals try simp only [Key_eta, Share_eta, Journey_eta, Batch_eta, FieldT_eta, OpB_eta, Product_eta, Key_beq, Share_beq, Journey_beq, FieldT_beq, Product_beq, toNat0, toNat1, toNat2, toNat3, toNat4, toNat5, toNat6, toNat7, toNat8, toNat9, toNat10, toNat11, toNat12, toNat13, toNat14, toNat15, toNat16, toNat17, toNat18, toNat19, iA, iOf, atS, zK, true_and, and_true, decide_eq_true_eq, decide_eq_false_iff_not, beq_iff_eq, bne_iff_ne, beq_eq_false_iff_ne, bne_eq_false_iff_eq, Bool.not_eq_true', Bool.not_eq_false', Bool.not_eq_true, Bool.not_eq_false, Nat.succ_eq_add_one, Int.not_lt, Int.not_le, gt_iff_lt, ge_iff_le] at *
    all_goals first
      | (refine Vc.mk ?_; simp; done)
      | (refine Res.mk ?_; (try simp only [from_nil] at *) <;> rcases apartC a b with a1 | ⟨a1, a2, a3, a4, a5⟩ <;> (try (simp_all [zkey]; done)) <;> rcases rollD a b with ⟨b1, b2⟩ | ⟨b1, b3, b2⟩ | ⟨b1, b3, b2, b4, b5, b6⟩ <;> (try (simp_all [zkey]; done)) <;> exfalso <;> simp_all [zkey] <;> omega)
  · exact h.fail.elim

end Go.Proofs.Ytncdakkigkmfjaa.Sx
