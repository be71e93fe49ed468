import Derived.Test.YthbmllekbbfobaaProg
import Derived.Test.YthbmllekbbfobaaSxU
import Derived.IntWalk
import Derived.Test.YthbmllekbbfobaaI11c1
/-! ipe, Body -/
namespace Go.Proofs.Ythbmllekbbfobaa.Sx
open Go
set_option linter.unusedVariables false
set_option linter.unusedSimpArgs false
set_option maxRecDepth 100000

def T_ipe_Body : TT := [(3, ⟨.int .i64, 1, 8, [.int .i64 0], some .int⟩),
  (4, ⟨.bool, 1, 1, [.bool false], some .bool⟩),
  (5, ⟨.int .u8, 1, 1, [.int .u8 0], some .u8⟩),
  (25, ⟨.slice 5, 1, 24, [.slice none 0 0], none⟩),
  (27, ⟨.int .i64, 1, 8, [.int .i64 0], some .int⟩),
  (56, ⟨.int .i64, 1, 8, [.int .i64 0], some .int⟩),
  (58, ⟨.strct [(0, 56), (1, 3), (2, 3), (3, 3), (4, 3), (5, 3), (6, 3), (7, 3), (8, 4), (9, 3), (10, 3), (11, 3), (12, 3), (13, 4)], 14, 112, [.int .i64 0, .int .i64 0, .int .i64 0, .int .i64 0, .int .i64 0, .int .i64 0, .int .i64 0, .int .i64 0, .bool false, .int .i64 0, .int .i64 0, .int .i64 0, .int .i64 0, .bool false], some .product⟩),
  (59, ⟨.int .i64, 1, 8, [.int .i64 0], some .int⟩),
  (131, ⟨.strct [(0, 25), (1, 3)], 2, 32, [.slice none 0 0, .int .i64 0], none⟩),
  (134, ⟨.strct [(0, 3), (1, 3)], 2, 16, [.int .i64 0, .int .i64 0], some .fieldT⟩),
  (196, ⟨.slice 134, 1, 24, [.slice none 0 0], none⟩),
  (225, ⟨.slice 25, 1, 24, [.slice none 0 0], none⟩)]
theorem tOk_ipe_Body : TOk Try.prog T_ipe_Body := tOk_of (by kernel_rfl)
def sp_ipe_Body : Spec := fun args hp => match args, hp with
  | [.agg p_cs, .val (.int .i64 t)], [] => (match decS .product p_cs with
    | some p => .ok (.tup [.slF 2000, iv (bodyE_ p t)]) [(2000, some (.row true .u8 (bodyL p t)))]
    | none => .fail "struct")
  | _, _ => .fail "ipe_Body"
abbrev k_ipe_Body : List (Option RK) := [none, none]
def a_ipe_Body : List SV → List (Nat × VB) → Anns := fun _ _ => []
set_option maxHeartbeats 20000000 in
theorem ok_ipe_Body : GOk Try.prog 28 (lift k_ipe_Body sp_ipe_Body) := by
  refine pf_ok (T := T_ipe_Body) (Γ := (27, lift k_ipe_Form sp_ipe_Form) :: (61, lift k_bits_Writer_Put sp_bits_Writer_Put) :: (62, lift k_bits_Writer_Bytes sp_bits_Writer_Bytes) :: (83, lift k_slices_Concat_byte_byte sp_slices_Concat_byte_byte) :: []) tOk_ipe_Body (gOks_cons ok_ipe_Form (gOks_cons ok_bits_Writer_Put (gOks_cons ok_bits_Writer_Bytes (gOks_cons ok_slices_Concat_byte_byte (gOks_nil _))))) mixed Try.func28 (c := body Try.f28) (by kernel_rfl) (by kernel_rfl) k_ipe_Body sp_ipe_Body (by kernel_rfl) (by kernel_rfl) a_ipe_Body ?_
  intro args hp s u hfit h
  unfold sp_ipe_Body at h
  split at h
  · rename_i p_cs t
    split at h
    case h_2 => exact h.fail.elim
    rename_i p h_p
    obtain rfl := decS_ok (k := .product) rfl h_p
    clear h_p
    change Product at p
    obtain ⟨rfl, rfl⟩ := h.ok
    clear h hfit
    conv => whnf
    repeat' (first
      | (refine And.intro ?_ ?_ <;> try conv => whnf)
      | (intro hh; first | (cases hh; done) | conv => whnf))
    all_goals try first | rfl | kernel_rfl
    all_goals try simp only [decide_eq_true_eq, decide_eq_false_iff_not] at *
    all_goals try simp only [Key_eta, Share_eta, Journey_eta, Batch_eta, FieldT_eta, OpB_eta, Product_eta, Item_eta, Delta_eta, Elem_eta, Rule_eta, Do10_eta, Key_beq, Share_beq, Journey_beq, FieldT_beq, Product_beq, Item_beq, Do10_beq, toNat0, toNat1, toNat2, toNat3, toNat4, toNat5, toNat6, toNat7, toNat8, toNat9, toNat10, toNat11, toNat12, toNat13, toNat14, toNat15, toNat16, toNat17, toNat18, toNat19, iA, iOf, atS, rwA, castK, zK, true_and, and_true, decide_eq_true_eq, decide_eq_false_iff_not, beq_iff_eq, bne_iff_ne, beq_eq_false_iff_ne, bne_eq_false_iff_eq, Bool.not_eq_true', Bool.not_eq_false', Bool.not_eq_true, Bool.not_eq_false, Nat.succ_eq_add_one, Int.not_lt, Int.not_le, gt_iff_lt, ge_iff_le, show bytesS T_ipe_Body 25 = 1 from rfl, show bytesS T_ipe_Body 196 = 16 from rfl, show bytesS T_ipe_Body 225 = 24 from rfl] at *
    all_goals try (
      have hf := formE_ne ‹formE p ≠ 0›
      have hno : ¬ (rightP p = true ∧ 1 ≤ t ∧ t ≤ 2147483647) := by rw [hf]; rintro ⟨h, _⟩; cases h
      rw [bodyL, bodyE_, if_neg hno, if_neg hno]
      exact Res.mk ⟨rfl, rfl⟩)
    all_goals try (
      have hno : ¬ (rightP p = true ∧ 1 ≤ t ∧ t ≤ 2147483647) := by rintro ⟨_, h, h'⟩; omega
      rw [bodyL, bodyE_, if_neg hno, if_neg hno]
      exact Res.mk ⟨rfl, rfl⟩)
    all_goals obtain ⟨hR, hF⟩ := formE_eq ‹formE p = 0›
    all_goals have hl := formB_len hR
    all_goals have hp := putB_32 (t := t) (by omega) (by omega)
    all_goals try rw [hF] at *
    all_goals try rw [hp] at *
    all_goals try (refine Vc.mk ⟨by simp, ?_, by simp⟩; intro f hf; obtain rfl := List.mem_singleton.1 hf; rfl)
    all_goals have e4 : (be 4 t).length = 4 := be_length 4 t
    all_goals have u8 : IntKind.u8.wrap ((formB p).length : Int) = (formB p).length := wrapU8' (by omega) (by omega)
    all_goals have ee : ([IntKind.u8.wrap ((formB p).length : Int)] ++ (formB p ++ be 4 t)).length = 5 + (formB p).length := by simp only [List.length_append, List.length_cons, List.length_nil, e4]; omega
    all_goals try rw [ee] at *
    all_goals have w1 : IntKind.i64.wrap (64 - ((5 + (formB p).length : Nat) : Int)) = ((59 - (formB p).length : Nat) : Int) := by rw [wrap64 (by omega) (by omega)]; omega
    all_goals try rw [w1] at *
    all_goals try simp only [Int.toNat_natCast] at *
    all_goals try (refine Vc.mk ?_; first | omega | (simp only [List.length_append, List.length_cons, List.length_nil, e4]; omega))
    all_goals (
      have hyes : rightP p = true ∧ 1 ≤ t ∧ t ≤ 2147483647 := ⟨hR, by omega, by omega⟩
      rw [bodyL, bodyE_, if_pos hyes, if_pos hyes, u8]
      exact Res.mk ⟨body_eq hR, rfl⟩)
  · exact h.fail.elim

end Go.Proofs.Ythbmllekbbfobaa.Sx
