import Derived.Test.YtncdakkigkmfjaaProg
import Derived.Test.YtncdakkigkmfjaaSxU
import Derived.IntWalk
import Derived.Test.YtncdakkigkmfjaaK4s2
/-! fareboxlaw09 -/
namespace Go.Proofs.Ytncdakkigkmfjaa.Sx
open Go
set_option linter.unusedVariables false
set_option linter.unusedSimpArgs false
set_option maxRecDepth 100000

def T_fareboxlaw09_KeysAsks : TT := [(3, ⟨.int .i64, 1, 8, [.int .i64 0], some .int⟩),
  (4, ⟨.bool, 1, 1, [.bool false], some .bool⟩),
  (23, ⟨.strct [(0, 3), (1, 3), (2, 3), (3, 3)], 4, 32, [.int .i64 0, .int .i64 0, .int .i64 0, .int .i64 0], some .key⟩),
  (24, ⟨.slice 3, 1, 24, [.slice none 0 0], none⟩),
  (25, ⟨.slice 23, 1, 24, [.slice none 0 0], none⟩),
  (27, ⟨.int .i64, 1, 8, [.int .i64 0], none⟩)]
theorem tOk_fareboxlaw09_KeysAsks : TOk Try.prog T_fareboxlaw09_KeysAsks := tOk_of (by kernel_rfl)
def sp_fareboxlaw09_KeysAsks : Spec := fun args hp => match args, hp with
  | [.agg k_cs, .slF 0, .slF 1], [(0, .row o_path .int path), (1, .row o_above .key above)] => (match decS .key k_cs with
    | some k => .vc (path.length ≤ 1048576 ∧ above.length ≤ 1048576) (bv true) []
    | none => .fail "struct")
  | _, _ => .fail "fareboxlaw09_KeysAsks"
abbrev k_fareboxlaw09_KeysAsks : List (Option RK) := [none, some .int, some .key]
def a_fareboxlaw09_KeysAsks : List SV → List (Nat × VB) → Anns := fun args hp => match args, hp with
  | [.agg k_cs, .slF 0, .slF 1], [(0, .row o_path .int path), (1, .row o_above .key above)] => (match decS .key k_cs with
    | some k => [(9, fun S => .inv [] [] fun ids vs => { cars := [.i 16 .i64, .b 15], inv := fun ((i, fr, _) : Int × Bool × Unit) => ∃ j : Nat, j ≤ above.length ∧ i = j ∧ fr = (right k && (above.take j).all (refFrom k)), mu := fun ((i, fr, _) : Int × Bool × Unit) => above.length - i.toNat })]
    | none => [])
  | _, _ => []
set_option maxHeartbeats 20000000 in
theorem ok_fareboxlaw09_KeysAsks : GOk Try.prog 3 (lift k_fareboxlaw09_KeysAsks sp_fareboxlaw09_KeysAsks) := by
  refine pf_ok (T := T_fareboxlaw09_KeysAsks) (Γ := (15, lift k_fareboxlaw09_awake sp_fareboxlaw09_awake) :: (16, lift k_keys_Derive sp_keys_Derive) :: (17, lift k_fareboxref09_Derive sp_fareboxref09_Derive) :: (18, lift k_keys_Parent sp_keys_Parent) :: (19, lift k_fareboxref09_Parent sp_fareboxref09_Parent) :: (20, lift k_fareboxref09_Right sp_fareboxref09_Right) :: (21, lift k_fareboxref09_From sp_fareboxref09_From) :: (22, lift k_keys_Right sp_keys_Right) :: (23, lift k_keys_Level sp_keys_Level) :: (24, lift k_fareboxref09_Level sp_fareboxref09_Level) :: (25, lift k_keys_From sp_keys_From) :: []) tOk_fareboxlaw09_KeysAsks (gOks_cons ok_fareboxlaw09_awake (gOks_cons ok_keys_Derive (gOks_cons ok_fareboxref09_Derive (gOks_cons ok_keys_Parent (gOks_cons ok_fareboxref09_Parent (gOks_cons ok_fareboxref09_Right (gOks_cons ok_fareboxref09_From (gOks_cons ok_keys_Right (gOks_cons ok_keys_Level (gOks_cons ok_fareboxref09_Level (gOks_cons ok_keys_From (gOks_nil _)))))))))))) mixed Try.func3 (c := body Try.f3) (by kernel_rfl) (by kernel_rfl) k_fareboxlaw09_KeysAsks sp_fareboxlaw09_KeysAsks (by kernel_rfl) (by kernel_rfl) a_fareboxlaw09_KeysAsks ?_
  intro args hp s u hfit h
  unfold sp_fareboxlaw09_KeysAsks at h
  split at h
  · rename_i k_cs o_path path o_above above
    split at h
    case h_2 => exact h.fail.elim
    rename_i k h_k
    obtain rfl := decS_ok (k := .key) rfl h_k
    clear h_k
    change Key at k
    obtain ⟨hvc, rfl, rfl⟩ := h.vc
    clear h hfit
    change List Int at path
    change List Key at above
    conv => whnf
    repeat' (first
      | (refine And.intro ?_ ?_ <;> try conv => whnf)
      | (intro hh; first | (cases hh; done) | conv => whnf))
    all_goals try first | rfl | kernel_rfl
    all_goals try simp only [Key_eta, Share_eta, Journey_eta, Batch_eta, FieldT_eta, OpB_eta, Product_eta, Key_beq, Share_beq, Journey_beq, FieldT_beq, Product_beq, toNat0, toNat1, toNat2, toNat3, toNat4, toNat5, toNat6, toNat7, toNat8, toNat9, toNat10, toNat11, toNat12, toNat13, toNat14, toNat15, toNat16, toNat17, toNat18, toNat19, iA, iOf, atS, zK, true_and, and_true, decide_eq_true_eq, decide_eq_false_iff_not, beq_iff_eq, bne_iff_ne, beq_eq_false_iff_ne, bne_eq_false_iff_eq, Bool.not_eq_true', Bool.not_eq_false', Bool.not_eq_true, Bool.not_eq_false, Nat.succ_eq_add_one, Int.not_lt, Int.not_le, gt_iff_lt, ge_iff_le] at *
    all_goals try simp only [List.nil_append, List.length_nil, derive_ref, show bytesS T_fareboxlaw09_KeysAsks 24 = 8 from rfl, show bytesS T_fareboxlaw09_KeysAsks 25 = 32 from rfl] at *
    all_goals first
      | (refine Vc.mk ?_; omega)
      | exact ⟨⟨0, Nat.zero_le _, rfl, by simp⟩⟩
      | (refine Res.mk ?_; exfalso; simp at *; done)
      | (obtain ⟨j, hj, rfl, rfl⟩ := ‹∃ j : Nat, j ≤ _ ∧ _ = _ ∧ _›
         try simp (disch := omega) only [wrap64, Int.toNat_natCast] at *
         first
         | (refine Vc.mk ?_; omega)
         | (refine ⟨⟨j + 1, by omega, by omega, ?_⟩, by omega⟩
            rw [take_getD (d := (⟨0, 0, 0, 0⟩ : Key)) (by omega), List.all_append, ← Bool.and_assoc]
            simp [*]; done)
         | (obtain rfl : j = above.length := by omega
            rw [List.take_length] at *
            refine Res.mk ?_
            exact from_ref _ _)
         | (refine Res.mk ?_; exfalso; simp at *; done))
  · exact h.fail.elim

end Go.Proofs.Ytncdakkigkmfjaa.Sx
