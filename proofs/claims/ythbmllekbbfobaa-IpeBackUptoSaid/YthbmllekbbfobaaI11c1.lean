import Derived.Test.YthbmllekbbfobaaProg
import Derived.Test.YthbmllekbbfobaaSxU
import Derived.IntWalk
import Derived.Test.YthbmllekbbfobaaI11c0
/-! ipe, Body -/
namespace Go.Proofs.Ythbmllekbbfobaa.Sx
open Go
set_option linter.unusedVariables false
set_option linter.unusedSimpArgs false
set_option maxRecDepth 100000

def T_slices_Concat_byte_byte : TT := [(3, ⟨.int .i64, 1, 8, [.int .i64 0], some .int⟩),
  (4, ⟨.bool, 1, 1, [.bool false], some .bool⟩),
  (5, ⟨.int .u8, 1, 1, [.int .u8 0], some .u8⟩),
  (25, ⟨.slice 5, 1, 24, [.slice none 0 0], none⟩),
  (225, ⟨.slice 25, 1, 24, [.slice none 0 0], none⟩)]
theorem tOk_slices_Concat_byte_byte : TOk Try.prog T_slices_Concat_byte_byte := tOk_of (by kernel_rfl)
def sp_slices_Concat_byte_byte : Spec := fun args hp => match args, hp with
  | [.slC 0 3], [(0, .cells [.slF 1, .slF 2, .slF 3]), (1, .row o_x0 .u8 x0), (2, .row o_x1 .u8 x1), (3, .row o_x2 .u8 x2)] => .vc (0 < x0.length ∧ x0.length + x1.length + x2.length ≤ 1048576) (.slF 2000) [(2000, some (.row true .u8 (x0 ++ (x1 ++ x2))))]
  | _, _ => .fail "slices_Concat_byte_byte"
abbrev k_slices_Concat_byte_byte : List (Option RK) := [none]
def a_slices_Concat_byte_byte : List SV → List (Nat × VB) → Anns := fun args hp => match args, hp with
  | [.slC 0 3], [(0, .cells [.slF 1, .slF 2, .slF 3]), (1, .row o_x0 .u8 x0), (2, .row o_x1 .u8 x1), (3, .row o_x2 .u8 x2)] => [(3, fun S => .unroll 4),
    (11, fun S => .unroll 4)]
  | _, _ => []
set_option maxHeartbeats 20000000 in
theorem ok_slices_Concat_byte_byte : GOk Try.prog 83 (lift k_slices_Concat_byte_byte sp_slices_Concat_byte_byte) := by
  refine pf_ok (T := T_slices_Concat_byte_byte) (Γ := (129, lift k_slices_Grow_byte_byteP sp_slices_Grow_byte_byteP) :: []) tOk_slices_Concat_byte_byte (gOks_cons ok_slices_Grow_byte_byteP (gOks_nil _)) mixed Try.func83 (c := body Try.f83) (by kernel_rfl) (by kernel_rfl) k_slices_Concat_byte_byte sp_slices_Concat_byte_byte (by kernel_rfl) (by kernel_rfl) a_slices_Concat_byte_byte ?_
  intro args hp s u hfit h
  unfold sp_slices_Concat_byte_byte at h
  split at h
  · rename_i o_x0 x0 o_x1 x1 o_x2 x2
    obtain ⟨hvc, rfl, rfl⟩ := h.vc
    clear h hfit
    conv => whnf
    repeat' (first
      | (refine And.intro ?_ ?_ <;> try conv => whnf)
      | (intro hh; first | (cases hh; done) | conv => whnf))
    all_goals try first | rfl | kernel_rfl
    all_goals try simp only [decide_eq_true_eq, decide_eq_false_iff_not] at *
    all_goals try simp only [Key_eta, Share_eta, Journey_eta, Batch_eta, FieldT_eta, OpB_eta, Product_eta, Item_eta, Delta_eta, Elem_eta, Rule_eta, Do10_eta, Key_beq, Share_beq, Journey_beq, FieldT_beq, Product_beq, Item_beq, Do10_beq, toNat0, toNat1, toNat2, toNat3, toNat4, toNat5, toNat6, toNat7, toNat8, toNat9, toNat10, toNat11, toNat12, toNat13, toNat14, toNat15, toNat16, toNat17, toNat18, toNat19, iA, iOf, atS, rwA, castK, zK, true_and, and_true, decide_eq_true_eq, decide_eq_false_iff_not, beq_iff_eq, bne_iff_ne, beq_eq_false_iff_ne, bne_eq_false_iff_eq, Bool.not_eq_true', Bool.not_eq_false', Bool.not_eq_true, Bool.not_eq_false, Nat.succ_eq_add_one, Int.not_lt, Int.not_le, gt_iff_lt, ge_iff_le, show bytesS T_slices_Concat_byte_byte 25 = 1 from rfl, show bytesS T_slices_Concat_byte_byte 225 = 24 from rfl] at *
    all_goals obtain ⟨hp, hl⟩ := hvc
    all_goals have w1 : IntKind.i64.wrap (0 + (x0.length : Int)) = x0.length := by rw [wrap64 (by omega) (by omega)]; omega
    all_goals have w2 : IntKind.i64.wrap ((x0.length : Int) + x1.length) = ((x0.length + x1.length : Nat) : Int) := by rw [wrap64 (by omega) (by omega)]; omega
    all_goals have w3 : IntKind.i64.wrap (((x0.length + x1.length : Nat) : Int) + x2.length) = ((x0.length + x1.length + x2.length : Nat) : Int) := by rw [wrap64 (by omega) (by omega)]; omega
    all_goals try simp only [w1, w2, w3, Int.toNat_natCast] at *
    all_goals try (exact Vc.mk rfl)
    all_goals try (exact Vc.mk (by decide))
    all_goals try (exfalso; omega)
    all_goals try (refine Vc.mk ?_; first | omega | (simp only [List.length_replicate]; omega) | (rw [splice_len (by simp only [List.length_replicate]; omega)]; simp only [List.length_replicate]; omega) | (rw [splice_len (by rw [splice_len (by simp only [List.length_replicate]; omega)]; simp only [List.length_replicate]; omega), splice_len (by simp only [List.length_replicate]; omega)]; simp only [List.length_replicate]; omega))
    all_goals exact Res.mk ⟨splice_three, by rw [splice_three]; simp only [List.length_append]; omega⟩
  · exact h.fail.elim

end Go.Proofs.Ythbmllekbbfobaa.Sx
