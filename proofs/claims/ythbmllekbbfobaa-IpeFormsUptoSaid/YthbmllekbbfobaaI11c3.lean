import Derived.Test.YthbmllekbbfobaaProg
import Derived.Test.YthbmllekbbfobaaSxU
import Derived.IntWalk
import Derived.Test.YthbmllekbbfobaaI11c2
/-! ipe, Body -/
namespace Go.Proofs.Ythbmllekbbfobaa.Sx
open Go
set_option linter.unusedVariables false
set_option linter.unusedSimpArgs false
set_option maxRecDepth 100000

def T_fareboxref10_Body : TT := [(3, ⟨.int .i64, 1, 8, [.int .i64 0], some .int⟩),
  (4, ⟨.bool, 1, 1, [.bool false], some .bool⟩),
  (5, ⟨.int .u8, 1, 1, [.int .u8 0], some .u8⟩),
  (25, ⟨.slice 5, 1, 24, [.slice none 0 0], none⟩),
  (56, ⟨.int .i64, 1, 8, [.int .i64 0], some .int⟩),
  (58, ⟨.strct [(0, 56), (1, 3), (2, 3), (3, 3), (4, 3), (5, 3), (6, 3), (7, 3), (8, 4), (9, 3), (10, 3), (11, 3), (12, 3), (13, 4)], 14, 112, [.int .i64 0, .int .i64 0, .int .i64 0, .int .i64 0, .int .i64 0, .int .i64 0, .int .i64 0, .int .i64 0, .bool false, .int .i64 0, .int .i64 0, .int .i64 0, .int .i64 0, .bool false], some .product⟩)]
theorem tOk_fareboxref10_Body : TOk Try.prog T_fareboxref10_Body := tOk_of (by kernel_rfl)
def sp_fareboxref10_Body : Spec := fun args hp => match args, hp with
  | [.agg p_cs, .val (.int .i64 t)], [] => (match decS .product p_cs with
    | some p => .vc (rightP p = true ∧ 0 ≤ t ∧ t ≤ 2147483647) (.slF 2000) [(2000, some (.row true .u8 (bodyB p t)))]
    | none => .fail "struct")
  | _, _ => .fail "fareboxref10_Body"
abbrev k_fareboxref10_Body : List (Option RK) := [none, none]
def a_fareboxref10_Body : List SV → List (Nat × VB) → Anns := fun args hp => match args, hp with
  | [.agg p_cs, .val (.int .i64 t)], [] => (match decS .product p_cs with
    | some p => [(4, fun S => .inv [] [] [] fun ids vs rs => { cars := [.r 6 true .u8], inv := fun ((b, _) : List Int × Unit) => IRBo p t b, mu := fun ((b, _) : List Int × Unit) => 64 - b.length })]
    | none => [])
  | _, _ => []
set_option maxHeartbeats 20000000 in
theorem ok_fareboxref10_Body : GOk Try.prog 33 (lift k_fareboxref10_Body sp_fareboxref10_Body) := by
  refine pf_ok (T := T_fareboxref10_Body) (Γ := (32, lift k_fareboxref10_Form sp_fareboxref10_Form) :: []) tOk_fareboxref10_Body (gOks_cons ok_fareboxref10_Form (gOks_nil _)) mixed Try.func33 (c := body Try.f33) (by kernel_rfl) (by kernel_rfl) k_fareboxref10_Body sp_fareboxref10_Body (by kernel_rfl) (by kernel_rfl) a_fareboxref10_Body ?_
  intro args hp s u hfit h
  unfold sp_fareboxref10_Body at h
  split at h
  · rename_i p_cs t
    split at h
    case h_2 => exact h.fail.elim
    rename_i p h_p
    obtain rfl := decS_ok (k := .product) rfl h_p
    clear h_p
    change Product at p
    obtain ⟨hvc, rfl, rfl⟩ := h.vc
    clear h hfit
    conv => whnf
    repeat' (first
      | (refine And.intro ?_ ?_ <;> try conv => whnf)
      | (intro hh; first | (cases hh; done) | conv => whnf))
    all_goals try first | rfl | kernel_rfl
    all_goals try simp only [decide_eq_true_eq, decide_eq_false_iff_not] at *
    all_goals try simp only [Key_eta, Share_eta, Journey_eta, Batch_eta, FieldT_eta, OpB_eta, Product_eta, Item_eta, Delta_eta, Elem_eta, Rule_eta, Do10_eta, Key_beq, Share_beq, Journey_beq, FieldT_beq, Product_beq, Item_beq, Do10_beq, toNat0, toNat1, toNat2, toNat3, toNat4, toNat5, toNat6, toNat7, toNat8, toNat9, toNat10, toNat11, toNat12, toNat13, toNat14, toNat15, toNat16, toNat17, toNat18, toNat19, iA, iOf, atS, rwA, castK, zK, true_and, and_true, decide_eq_true_eq, decide_eq_false_iff_not, beq_iff_eq, bne_iff_ne, beq_eq_false_iff_ne, bne_eq_false_iff_eq, Bool.not_eq_true', Bool.not_eq_false', Bool.not_eq_true, Bool.not_eq_false, Nat.succ_eq_add_one, Int.not_lt, Int.not_le, gt_iff_lt, ge_iff_le, show bytesS T_fareboxref10_Body 25 = 1 from rfl] at *
    all_goals obtain ⟨hR, h0, h1⟩ := hvc
    all_goals have hl := formB_len hR
    all_goals have u8 : IntKind.u8.wrap ((formB p).length : Int) = (formB p).length := wrapU8' (by omega) (by omega)
    all_goals have e4 := four_be h0 h1
    all_goals try rw [e4] at *
    all_goals try rw [u8] at *
    all_goals have l4 : (be 4 t).length = 4 := be_length 4 t
    all_goals try (
      have hex := ‹IRBo _ _ _›
      obtain ⟨j, hj, rfl⟩ := hex
      try simp only [List.length_cons, List.length_append, List.length_replicate, l4] at *)
    all_goals try (exact Vc.mk hR)
    all_goals try (exact Vc.mk (by decide))
    all_goals try (refine Vc.mk ?_; first | omega | (simp only [List.length_cons, List.length_append, List.length_nil, List.length_replicate, l4]; omega))
    · exact ⟨⟨0, by omega, by simp⟩⟩
    · refine ⟨⟨j + 1, by omega, by simp [List.replicate_succ']⟩, ?_⟩
      simp only [List.length_cons, List.length_append, List.length_nil, List.length_replicate, l4]; omega
    · obtain rfl : j = 59 - (formB p).length
      · omega
      exact Res.mk rfl
  · exact h.fail.elim

end Go.Proofs.Ythbmllekbbfobaa.Sx
