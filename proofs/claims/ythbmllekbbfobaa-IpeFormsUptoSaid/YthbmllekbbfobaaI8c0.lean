import Derived.Test.YthbmllekbbfobaaProg
import Derived.Test.YthbmllekbbfobaaSxU
import Derived.IntWalk
import Derived.Test.YthbmllekbbfobaaI8r
/-! ipe, Open -/
namespace Go.Proofs.Ythbmllekbbfobaa.Sx
open Go
set_option linter.unusedVariables false
set_option linter.unusedSimpArgs false
set_option maxRecDepth 100000

def T_ipe_Open_1 : TT := [(4, ⟨.bool, 1, 1, [.bool false], some .bool⟩),
  (5, ⟨.int .u8, 1, 1, [.int .u8 0], some .u8⟩)]
theorem tOk_ipe_Open_1 : TOk Try.prog T_ipe_Open_1 := tOk_of (by kernel_rfl)
def sp_ipe_Open_1 : Spec := fun args hp => match args, hp with
  | [.val (.int .u8 x)], [] => .ok (bv (nzB x)) []
  | _, _ => .fail "ipe_Open_1"
abbrev k_ipe_Open_1 : List (Option RK) := [none]
def a_ipe_Open_1 : List SV → List (Nat × VB) → Anns := fun _ _ => []
set_option maxHeartbeats 20000000 in
theorem ok_ipe_Open_1 : GOk Try.prog 89 (lift k_ipe_Open_1 sp_ipe_Open_1) := by
  refine pf_ok (T := T_ipe_Open_1) (Γ := []) tOk_ipe_Open_1 (gOks_nil _) mixed Try.func89 (c := body Try.f89) (by kernel_rfl) (by kernel_rfl) k_ipe_Open_1 sp_ipe_Open_1 (by kernel_rfl) (by kernel_rfl) a_ipe_Open_1 ?_
  intro args hp s u hfit h
  unfold sp_ipe_Open_1 at h
  split at h
  · rename_i x
    obtain ⟨rfl, rfl⟩ := h.ok
    clear h hfit
    conv => whnf
    repeat' (first
      | (refine And.intro ?_ ?_ <;> try conv => whnf)
      | (intro hh; first | (cases hh; done) | conv => whnf))
    all_goals try first | rfl | kernel_rfl
    all_goals try simp only [decide_eq_true_eq, decide_eq_false_iff_not] at *
    all_goals try simp only [Key_eta, Share_eta, Journey_eta, Batch_eta, FieldT_eta, OpB_eta, Product_eta, Item_eta, Delta_eta, Elem_eta, Rule_eta, Do10_eta, Key_beq, Share_beq, Journey_beq, FieldT_beq, Product_beq, Item_beq, Do10_beq, toNat0, toNat1, toNat2, toNat3, toNat4, toNat5, toNat6, toNat7, toNat8, toNat9, toNat10, toNat11, toNat12, toNat13, toNat14, toNat15, toNat16, toNat17, toNat18, toNat19, iA, iOf, atS, rwA, castK, zK, true_and, and_true, decide_eq_true_eq, decide_eq_false_iff_not, beq_iff_eq, bne_iff_ne, beq_eq_false_iff_ne, bne_eq_false_iff_eq, Bool.not_eq_true', Bool.not_eq_false', Bool.not_eq_true, Bool.not_eq_false, Nat.succ_eq_add_one, Int.not_lt, Int.not_le, gt_iff_lt, ge_iff_le] at *
    all_goals first | exact Res.mk trivial | exact Res.mk rfl
  · exact h.fail.elim

def T_slices_IndexFunc_byte_byte : TT := [(3, ⟨.int .i64, 1, 8, [.int .i64 0], some .int⟩),
  (4, ⟨.bool, 1, 1, [.bool false], some .bool⟩),
  (5, ⟨.int .u8, 1, 1, [.int .u8 0], some .u8⟩),
  (25, ⟨.slice 5, 1, 24, [.slice none 0 0], none⟩),
  (167, ⟨.other, 1, 8, [.nilFunc], none⟩)]
theorem tOk_slices_IndexFunc_byte_byte : TOk Try.prog T_slices_IndexFunc_byte_byte := tOk_of (by kernel_rfl)
def sp_slices_IndexFunc_byte_byte : Spec := fun args hp => match args, hp with
  | [.slP 0 b_i b_n, .fn (.func 89) [] []], [(0, .row o_b .u8 b)] => .vc (((b.drop b_i).take b_n).length ≤ 1048576) (iv (idxP nzB ((b.drop b_i).take b_n) 0)) []
  | _, _ => .fail "slices_IndexFunc_byte_byte"
abbrev k_slices_IndexFunc_byte_byte : List (Option RK) := [some .u8, none]
def a_slices_IndexFunc_byte_byte : List SV → List (Nat × VB) → Anns := fun args hp => match args, hp with
  | [.slP 0 b_i b_n, .fn (.func 89) [] []], [(0, .row o_b .u8 b)] => [(2, fun S => .inv [] [] [] fun ids vs rs => { cars := [.i 8 .i64], inv := fun ((i, _) : Int × Unit) => IAny nzB ((b.drop b_i).take b_n) i, mu := fun ((i, _) : Int × Unit) => ((b.drop b_i).take b_n).length - i.toNat })]
  | _, _ => []
set_option maxHeartbeats 20000000 in
theorem ok_slices_IndexFunc_byte_byte : GOk Try.prog 131 (lift k_slices_IndexFunc_byte_byte sp_slices_IndexFunc_byte_byte) := by
  refine pf_ok (T := T_slices_IndexFunc_byte_byte) (Γ := (89, lift k_ipe_Open_1 sp_ipe_Open_1) :: []) tOk_slices_IndexFunc_byte_byte (gOks_cons ok_ipe_Open_1 (gOks_nil _)) mixed Try.func131 (c := body Try.f131) (by kernel_rfl) (by kernel_rfl) k_slices_IndexFunc_byte_byte sp_slices_IndexFunc_byte_byte (by kernel_rfl) (by kernel_rfl) a_slices_IndexFunc_byte_byte ?_
  intro args hp s u hfit h
  unfold sp_slices_IndexFunc_byte_byte at h
  split at h
  · rename_i b_i b_n o_b b
    obtain ⟨hvc, rfl, rfl⟩ := h.vc
    clear h
    change List Int at b
    conv => whnf
    repeat' (first
      | (refine And.intro ?_ ?_ <;> try conv => whnf)
      | (intro hh; first | (cases hh; done) | conv => whnf))
    all_goals try first | rfl | kernel_rfl
    all_goals try simp only [decide_eq_true_eq, decide_eq_false_iff_not] at *
    all_goals try simp only [Key_eta, Share_eta, Journey_eta, Batch_eta, FieldT_eta, OpB_eta, Product_eta, Item_eta, Delta_eta, Elem_eta, Rule_eta, Do10_eta, Key_beq, Share_beq, Journey_beq, FieldT_beq, Product_beq, Item_beq, Do10_beq, toNat0, toNat1, toNat2, toNat3, toNat4, toNat5, toNat6, toNat7, toNat8, toNat9, toNat10, toNat11, toNat12, toNat13, toNat14, toNat15, toNat16, toNat17, toNat18, toNat19, iA, iOf, atS, rwA, castK, zK, true_and, and_true, decide_eq_true_eq, decide_eq_false_iff_not, beq_iff_eq, bne_iff_ne, beq_eq_false_iff_ne, bne_eq_false_iff_eq, Bool.not_eq_true', Bool.not_eq_false', Bool.not_eq_true, Bool.not_eq_false, Nat.succ_eq_add_one, Int.not_lt, Int.not_le, gt_iff_lt, ge_iff_le, show bytesS T_slices_IndexFunc_byte_byte 25 = 1 from rfl] at *
    all_goals (
      have hf : b_n = 0 ∨ b_i + b_n ≤ b.length := hfit.1
      have hfn : ((b.drop b_i).take b_n).length = b_n := by
        rw [List.length_take, List.length_drop]
        omega
      have hge : ∀ i, i < b_n → ((b.drop b_i).take b_n).getD i 0 = b.getD (b_i + i) 0 := fun i hi => getD_take_drop hi)
    all_goals generalize hbb : ((b.drop b_i).take b_n) = bb at *
    all_goals subst hfn
    all_goals try (
      have hex := ‹IAny _ _ _›
      obtain ⟨j, hj, rfl, hb⟩ := hex)
    all_goals try (refine Vc.mk ?_; omega)
    all_goals try (
      have hjb : j < bb.length := by omega
      have z0 : ((b_i : Int) + (j : Int)).toNat = b_i + j := by omega
      have g0 : b.getD ((b_i : Int) + (j : Int)).toNat 0 = bb.getD j 0 := by rw [z0]; exact (hge j hjb).symm
      simp only [g0] at *)
    · exact ⟨⟨0, Nat.zero_le _, rfl, rfl⟩⟩
    · refine Res.mk ?_
      rw [idxP_at (d := 0) hb hjb (by assumption)]; omega
    · refine ⟨⟨j + 1, by omega, by rw [wrap64] <;> omega, ?_⟩, by rw [wrap64] <;> omega⟩
      have hz : nzB (bb.getD j 0) = false := ‹_›
      rw [take_getD (d := 0) (by omega), any_snoc, hb, hz]; rfl
    · refine Res.mk ?_
      rw [idxP_none]
      rw [← List.take_length (l := bb), show bb.length = j by omega]; exact hb
  · exact h.fail.elim

def T_slices_ContainsFunc_byte_byte : TT := [(3, ⟨.int .i64, 1, 8, [.int .i64 0], some .int⟩),
  (4, ⟨.bool, 1, 1, [.bool false], some .bool⟩),
  (5, ⟨.int .u8, 1, 1, [.int .u8 0], some .u8⟩),
  (25, ⟨.slice 5, 1, 24, [.slice none 0 0], none⟩),
  (167, ⟨.other, 1, 8, [.nilFunc], none⟩)]
theorem tOk_slices_ContainsFunc_byte_byte : TOk Try.prog T_slices_ContainsFunc_byte_byte := tOk_of (by kernel_rfl)
def sp_slices_ContainsFunc_byte_byte : Spec := fun args hp => match args, hp with
  | [.slP 0 b_i b_n, .fn (.func 89) [] []], [(0, .row o_b .u8 b)] => .vc (((b.drop b_i).take b_n).length ≤ 1048576) (bv (((b.drop b_i).take b_n).any nzB)) []
  | _, _ => .fail "slices_ContainsFunc_byte_byte"
abbrev k_slices_ContainsFunc_byte_byte : List (Option RK) := [some .u8, none]
def a_slices_ContainsFunc_byte_byte : List SV → List (Nat × VB) → Anns := fun _ _ => []
set_option maxHeartbeats 20000000 in
theorem ok_slices_ContainsFunc_byte_byte : GOk Try.prog 88 (lift k_slices_ContainsFunc_byte_byte sp_slices_ContainsFunc_byte_byte) := by
  refine pf_ok (T := T_slices_ContainsFunc_byte_byte) (Γ := (131, lift k_slices_IndexFunc_byte_byte sp_slices_IndexFunc_byte_byte) :: []) tOk_slices_ContainsFunc_byte_byte (gOks_cons ok_slices_IndexFunc_byte_byte (gOks_nil _)) mixed Try.func88 (c := body Try.f88) (by kernel_rfl) (by kernel_rfl) k_slices_ContainsFunc_byte_byte sp_slices_ContainsFunc_byte_byte (by kernel_rfl) (by kernel_rfl) a_slices_ContainsFunc_byte_byte ?_
  intro args hp s u hfit h
  unfold sp_slices_ContainsFunc_byte_byte at h
  split at h
  · rename_i b_i b_n o_b b
    obtain ⟨hvc, rfl, rfl⟩ := h.vc
    clear h
    change List Int at b
    conv => whnf
    repeat' (first
      | (refine And.intro ?_ ?_ <;> try conv => whnf)
      | (intro hh; first | (cases hh; done) | conv => whnf))
    all_goals try first | rfl | kernel_rfl
    all_goals try simp only [decide_eq_true_eq, decide_eq_false_iff_not] at *
    all_goals try simp only [Key_eta, Share_eta, Journey_eta, Batch_eta, FieldT_eta, OpB_eta, Product_eta, Item_eta, Delta_eta, Elem_eta, Rule_eta, Do10_eta, Key_beq, Share_beq, Journey_beq, FieldT_beq, Product_beq, Item_beq, Do10_beq, toNat0, toNat1, toNat2, toNat3, toNat4, toNat5, toNat6, toNat7, toNat8, toNat9, toNat10, toNat11, toNat12, toNat13, toNat14, toNat15, toNat16, toNat17, toNat18, toNat19, iA, iOf, atS, rwA, castK, zK, true_and, and_true, decide_eq_true_eq, decide_eq_false_iff_not, beq_iff_eq, bne_iff_ne, beq_eq_false_iff_ne, bne_eq_false_iff_eq, Bool.not_eq_true', Bool.not_eq_false', Bool.not_eq_true, Bool.not_eq_false, Nat.succ_eq_add_one, Int.not_lt, Int.not_le, gt_iff_lt, ge_iff_le, show bytesS T_slices_ContainsFunc_byte_byte 25 = 1 from rfl] at *
    all_goals first | exact Vc.mk hvc | (refine Res.mk ?_; rw [idxP_any (by decide)])
  · exact h.fail.elim

end Go.Proofs.Ythbmllekbbfobaa.Sx
