import Derived.Test.YtncdakkigkmfjaaProg
import Derived.Test.YtncdakkigkmfjaaSxU
import Derived.IntWalk
import Derived.Test.YtncdakkigkmfjaaK3s0
/-! fareboxlaw09 -/
namespace Go.Proofs.Ytncdakkigkmfjaa.Sx
open Go
set_option linter.unusedVariables false
set_option linter.unusedSimpArgs false
set_option maxRecDepth 100000

def T_fareboxlaw09_KeysRolls : TT := [(3, ⟨.int .i64, 1, 8, [.int .i64 0], some .int⟩),
  (4, ⟨.bool, 1, 1, [.bool false], some .bool⟩),
  (23, ⟨.strct [(0, 3), (1, 3), (2, 3), (3, 3)], 4, 32, [.int .i64 0, .int .i64 0, .int .i64 0, .int .i64 0], some .key⟩),
  (25, ⟨.slice 23, 1, 24, [.slice none 0 0], none⟩),
  (27, ⟨.int .i64, 1, 8, [.int .i64 0], none⟩),
  (40, ⟨.int .i64, 1, 8, [.int .i64 0], none⟩),
  (42, ⟨.strct [(0, 40), (1, 3), (2, 3), (3, 3), (4, 3), (5, 3), (6, 3), (7, 3), (8, 4), (9, 3), (10, 3), (11, 3), (12, 3), (13, 4)], 14, 112, [.int .i64 0, .int .i64 0, .int .i64 0, .int .i64 0, .int .i64 0, .int .i64 0, .int .i64 0, .int .i64 0, .bool false, .int .i64 0, .int .i64 0, .int .i64 0, .int .i64 0, .bool false], some .product⟩)]
theorem tOk_fareboxlaw09_KeysRolls : TOk Try.prog T_fareboxlaw09_KeysRolls := tOk_of (by kernel_rfl)
def sp_fareboxlaw09_KeysRolls : Spec := fun args hp => match args, hp with
  | [.agg k_cs, .agg p_cs], [] => (match decS .key k_cs with
    | some k => (match decS .product p_cs with
    | some p => .ok (bv true) []
    | none => .fail "struct")
    | none => .fail "struct")
  | _, _ => .fail "fareboxlaw09_KeysRolls"
abbrev k_fareboxlaw09_KeysRolls : List (Option RK) := [none, none]
def a_fareboxlaw09_KeysRolls : List SV → List (Nat × VB) → Anns := fun _ _ => []
set_option maxHeartbeats 20000000 in
theorem ok_fareboxlaw09_KeysRolls : GOk Try.prog 7 (lift k_fareboxlaw09_KeysRolls sp_fareboxlaw09_KeysRolls) := by
  refine pf_ok (T := T_fareboxlaw09_KeysRolls) (Γ := (15, lift k_fareboxlaw09_awake sp_fareboxlaw09_awake) :: (26, lift k_keys_Roll sp_keys_Roll) :: (20, lift k_fareboxref09_Right sp_fareboxref09_Right) :: (25, lift k_keys_From sp_keys_From) :: (27, lift k_keys_Product sp_keys_Product) :: (28, lift k_keys_Batch sp_keys_Batch) :: (24, lift k_fareboxref09_Level sp_fareboxref09_Level) :: []) tOk_fareboxlaw09_KeysRolls (gOks_cons ok_fareboxlaw09_awake (gOks_cons ok_keys_Roll (gOks_cons ok_fareboxref09_Right (gOks_cons ok_keys_From (gOks_cons ok_keys_Product (gOks_cons ok_keys_Batch (gOks_cons ok_fareboxref09_Level (gOks_nil _)))))))) mixed Try.func7 (c := body Try.f7) (by kernel_rfl) (by kernel_rfl) k_fareboxlaw09_KeysRolls sp_fareboxlaw09_KeysRolls (by kernel_rfl) (by kernel_rfl) a_fareboxlaw09_KeysRolls ?_
  intro args hp s u hfit h
  unfold sp_fareboxlaw09_KeysRolls at h
  split at h
  · rename_i k_cs p_cs
    split at h
    case h_2 => exact h.fail.elim
    rename_i k h_k
    obtain rfl := decS_ok (k := .key) rfl h_k
    clear h_k
    change Key at k
    split at h
    case h_2 => exact h.fail.elim
    rename_i p h_p
    obtain rfl := decS_ok (k := .product) rfl h_p
    clear h_p
    change Product at p
    obtain ⟨rfl, rfl⟩ := h.ok
    clear h hfit
    conv => whnf
    repeat' (first
      | (refine And.intro ?_ ?_ <;> try conv => whnf)
      | (intro hh; first | (cases hh; done) | conv => whnf))
    all_goals try first | rfl | kernel_rfl
    all_goals try simp only [Key_eta, Share_eta, Journey_eta, Batch_eta, FieldT_eta, OpB_eta, Product_eta, Key_beq, Share_beq, Journey_beq, FieldT_beq, Product_beq, toNat0, toNat1, toNat2, toNat3, toNat4, toNat5, toNat6, toNat7, toNat8, toNat9, toNat10, toNat11, toNat12, toNat13, toNat14, toNat15, toNat16, toNat17, toNat18, toNat19, iA, iOf, atS, zK, true_and, and_true, decide_eq_true_eq, decide_eq_false_iff_not, beq_iff_eq, bne_iff_ne, beq_eq_false_iff_ne, bne_eq_false_iff_eq, Bool.not_eq_true', Bool.not_eq_false', Bool.not_eq_true, Bool.not_eq_false, Nat.succ_eq_add_one, Int.not_lt, Int.not_le, gt_iff_lt, ge_iff_le] at *
    all_goals first
      | (refine Vc.mk ?_; simp; done)
      | (refine Res.mk ?_; rcases rollC k with ⟨a1, a2⟩ | ⟨a1, a3, a2⟩ | ⟨a1, a3, a2, a4, a5⟩ <;> (try (simp_all [zkey]; done)) <;> rcases prodC p with ⟨b1, b2⟩ | ⟨b1, b2⟩ <;> (try (simp_all [zkey]; done)) <;> rcases batchC k.op k.ver with ⟨c1, c2⟩ | ⟨c1, c2⟩ <;> (try (simp_all [zkey]; done)))
  · exact h.fail.elim

end Go.Proofs.Ytncdakkigkmfjaa.Sx
