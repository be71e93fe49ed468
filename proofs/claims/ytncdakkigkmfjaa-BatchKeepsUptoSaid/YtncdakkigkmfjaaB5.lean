import Derived.Test.YtncdakkigkmfjaaProg
import Derived.Test.YtncdakkigkmfjaaSxU
import Derived.IntWalk
import Derived.Test.YtncdakkigkmfjaaB5r
/-! batch, Ack and Open -/
namespace Go.Proofs.Ytncdakkigkmfjaa.Sx
open Go
set_option linter.unusedVariables false
set_option linter.unusedSimpArgs false
set_option maxRecDepth 100000

def T_slices_Delete_api_Batch_api_Batch : TT := [(3, ⟨.int .i64, 1, 8, [.int .i64 0], some .int⟩),
  (4, ⟨.bool, 1, 1, [.bool false], some .bool⟩),
  (40, ⟨.int .i64, 1, 8, [.int .i64 0], none⟩),
  (54, ⟨.slice 73, 1, 24, [.slice none 0 0], none⟩),
  (56, ⟨.strct [(0, 3), (1, 3), (2, 54)], 3, 40, [.int .i64 0, .int .i64 0, .slice none 0 0], some .batch⟩),
  (73, ⟨.strct [(0, 3), (1, 3), (2, 3), (3, 3), (4, 3), (5, 40), (6, 3), (7, 3), (8, 3), (9, 3)], 10, 80, [.int .i64 0, .int .i64 0, .int .i64 0, .int .i64 0, .int .i64 0, .int .i64 0, .int .i64 0, .int .i64 0, .int .i64 0, .int .i64 0], some .journey⟩),
  (83, ⟨.slice 56, 1, 24, [.slice none 0 0], none⟩)]
theorem tOk_slices_Delete_api_Batch_api_Batch : TOk Try.prog T_slices_Delete_api_Batch_api_Batch := tOk_of (by kernel_rfl)
def sp_slices_Delete_api_Batch_api_Batch : Spec := fun args hp => match args, hp with
  | [.slF 0, .val (.int .i64 i), .val (.int .i64 j)], [(0, .row true .batch xs)] => .vc (0 ≤ i ∧ i < j ∧ j ≤ xs.length ∧ xs.length ≤ 1099511627776) (.slP 0 0 (xs.length - (j.toNat - i.toNat))) [(0, some (.row true .batch (xs.take i.toNat ++ xs.drop j.toNat ++ List.replicate (j.toNat - i.toNat) ⟨0, 0, []⟩)))]
  | _, _ => .fail "slices_Delete_api_Batch_api_Batch"
abbrev k_slices_Delete_api_Batch_api_Batch : List (Option RK) := [some .batch, none, none]
def a_slices_Delete_api_Batch_api_Batch : List SV → List (Nat × VB) → Anns := fun _ _ => []
set_option maxHeartbeats 20000000 in
theorem ok_slices_Delete_api_Batch_api_Batch : GOk Try.prog 77 (lift k_slices_Delete_api_Batch_api_Batch sp_slices_Delete_api_Batch_api_Batch) := by
  refine pf_ok (T := T_slices_Delete_api_Batch_api_Batch) (Γ := []) tOk_slices_Delete_api_Batch_api_Batch (gOks_nil _) mixed Try.func77 (c := body Try.f77) (by kernel_rfl) (by kernel_rfl) k_slices_Delete_api_Batch_api_Batch sp_slices_Delete_api_Batch_api_Batch (by kernel_rfl) (by kernel_rfl) a_slices_Delete_api_Batch_api_Batch ?_
  intro args hp s u hfit h
  unfold sp_slices_Delete_api_Batch_api_Batch at h
  split at h
  · rename_i i j xs
    obtain ⟨hvc, rfl, rfl⟩ := h.vc
    clear h hfit
    change List Batch at xs
    conv => whnf
    repeat' (first
      | (refine And.intro ?_ ?_ <;> try conv => whnf)
      | (intro hh; first | (cases hh; done) | conv => whnf))
    all_goals try first | rfl | kernel_rfl
    all_goals try simp only [decide_eq_true_eq, decide_eq_false_iff_not] at *
    all_goals try simp only [Key_eta, Share_eta, Journey_eta, Batch_eta, FieldT_eta, OpB_eta, Product_eta, Key_beq, Share_beq, Journey_beq, FieldT_beq, Product_beq, toNat0, toNat1, toNat2, toNat3, toNat4, toNat5, toNat6, toNat7, toNat8, toNat9, toNat10, toNat11, toNat12, toNat13, toNat14, toNat15, toNat16, toNat17, toNat18, toNat19, iA, iOf, atS, rwA, castK, zK, true_and, and_true, decide_eq_true_eq, decide_eq_false_iff_not, beq_iff_eq, bne_iff_ne, beq_eq_false_iff_ne, bne_eq_false_iff_eq, Bool.not_eq_true', Bool.not_eq_false', Bool.not_eq_true, Bool.not_eq_false, Nat.succ_eq_add_one, Int.not_lt, Int.not_le, gt_iff_lt, ge_iff_le, show bytesS T_slices_Delete_api_Batch_api_Batch 54 = 80 from rfl, show bytesS T_slices_Delete_api_Batch_api_Batch 83 = 40 from rfl] at *
    all_goals have hl := del_len hvc
    all_goals have hh := hvc
    all_goals obtain ⟨h1, h2, h3, h4⟩ := hvc
    all_goals try (exfalso; omega)
    all_goals try rw [hl]
    all_goals try (refine Vc.mk ?_; omega)
    · refine Vc.mk ?_
      rw [splice_length (by rw [List.length_take, List.length_drop]; omega)]; omega
    · exact Res.mk ⟨del_res _ hh, by omega⟩
  · exact h.fail.elim

def T_batch_Book_Ack : TT := [(3, ⟨.int .i64, 1, 8, [.int .i64 0], some .int⟩),
  (4, ⟨.bool, 1, 1, [.bool false], some .bool⟩),
  (27, ⟨.int .i64, 1, 8, [.int .i64 0], none⟩),
  (40, ⟨.int .i64, 1, 8, [.int .i64 0], none⟩),
  (54, ⟨.slice 73, 1, 24, [.slice none 0 0], none⟩),
  (56, ⟨.strct [(0, 3), (1, 3), (2, 54)], 3, 40, [.int .i64 0, .int .i64 0, .slice none 0 0], some .batch⟩),
  (60, ⟨.other, 1, 8, [.nilFunc], none⟩),
  (68, ⟨.ptr, 1, 8, [.pointer none], none⟩),
  (73, ⟨.strct [(0, 3), (1, 3), (2, 3), (3, 3), (4, 3), (5, 40), (6, 3), (7, 3), (8, 3), (9, 3)], 10, 80, [.int .i64 0, .int .i64 0, .int .i64 0, .int .i64 0, .int .i64 0, .int .i64 0, .int .i64 0, .int .i64 0, .int .i64 0, .int .i64 0], some .journey⟩),
  (83, ⟨.slice 56, 1, 24, [.slice none 0 0], none⟩),
  (121, ⟨.strct [(0, 3), (1, 3), (2, 3), (3, 54), (4, 83)], 5, 72, [.int .i64 0, .int .i64 0, .int .i64 0, .slice none 0 0, .slice none 0 0], none⟩)]
theorem tOk_batch_Book_Ack : TOk Try.prog T_batch_Book_Ack := tOk_of (by kernel_rfl)
def sp_batch_Book_Ack : Spec := fun args hp => match args, hp with
  | [.ptr 0 0, .val (.int .i64 n)], [(0, .cells [.val (.int .i64 b_op), .val (.int .i64 b_last), .val (.int .i64 b_n), .slF 1, .slF 2]), (1, .row true .journey b_loose), (2, .row true .batch b_open)] => .vc (b_open.length ≤ 1048576) (iv (ackE n b_open)) [(0, some (.cells [iv b_op, iv b_last, iv b_n, .slF 1, .slF 2000])), (2, none), (2000, some (.row true .batch (delB n b_open)))]
  | _, _ => .fail "batch_Book_Ack"
abbrev k_batch_Book_Ack : List (Option RK) := [none, none]
def a_batch_Book_Ack : List SV → List (Nat × VB) → Anns := fun _ _ => []
set_option maxHeartbeats 20000000 in
theorem ok_batch_Book_Ack : GOk Try.prog 49 (lift k_batch_Book_Ack sp_batch_Book_Ack) := by
  refine pf_ok (T := T_batch_Book_Ack) (Γ := (75, lift k_slices_IndexFunc_api_Batch_api_Batch sp_slices_IndexFunc_api_Batch_api_Batch) :: (77, lift k_slices_Delete_api_Batch_api_Batch sp_slices_Delete_api_Batch_api_Batch) :: []) tOk_batch_Book_Ack (gOks_cons ok_slices_IndexFunc_api_Batch_api_Batch (gOks_cons ok_slices_Delete_api_Batch_api_Batch (gOks_nil _))) mixed Try.func49 (c := body Try.f49) (by kernel_rfl) (by kernel_rfl) k_batch_Book_Ack sp_batch_Book_Ack (by kernel_rfl) (by kernel_rfl) a_batch_Book_Ack ?_
  intro args hp s u hfit h
  unfold sp_batch_Book_Ack at h
  split at h
  · rename_i n b_op b_last b_n b_loose b_open
    obtain ⟨hvc, rfl, rfl⟩ := h.vc
    clear h hfit
    conv => whnf
    repeat' (first
      | (refine And.intro ?_ ?_ <;> try conv => whnf)
      | (intro hh; first | (cases hh; done) | conv => whnf))
    all_goals try first | rfl | kernel_rfl
    all_goals try simp only [decide_eq_true_eq, decide_eq_false_iff_not] at *
    all_goals try simp only [Key_eta, Share_eta, Journey_eta, Batch_eta, FieldT_eta, OpB_eta, Product_eta, Key_beq, Share_beq, Journey_beq, FieldT_beq, Product_beq, toNat0, toNat1, toNat2, toNat3, toNat4, toNat5, toNat6, toNat7, toNat8, toNat9, toNat10, toNat11, toNat12, toNat13, toNat14, toNat15, toNat16, toNat17, toNat18, toNat19, iA, iOf, atS, rwA, castK, zK, true_and, and_true, decide_eq_true_eq, decide_eq_false_iff_not, beq_iff_eq, bne_iff_ne, beq_eq_false_iff_ne, bne_eq_false_iff_eq, Bool.not_eq_true', Bool.not_eq_false', Bool.not_eq_true, Bool.not_eq_false, Nat.succ_eq_add_one, Int.not_lt, Int.not_le, gt_iff_lt, ge_iff_le, show bytesS T_batch_Book_Ack 54 = 80 from rfl, show bytesS T_batch_Book_Ack 83 = 40 from rfl] at *
    · exact Vc.mk (by omega)
    · exact Res.mk (ack_no ‹_ < _›)
    · obtain ⟨p, h1, h2⟩ := ack_at ‹0 ≤ findB n b_open 0›
      rw [h2, wrap64 (by omega) (by omega)]
      exact Vc.mk (by omega)
    · exact Res.mk (ack_yes ‹0 ≤ findB n b_open 0› hvc)
  · exact h.fail.elim

def T_batch_Book_Open : TT := [(3, ⟨.int .i64, 1, 8, [.int .i64 0], some .int⟩),
  (40, ⟨.int .i64, 1, 8, [.int .i64 0], none⟩),
  (54, ⟨.slice 73, 1, 24, [.slice none 0 0], none⟩),
  (56, ⟨.strct [(0, 3), (1, 3), (2, 54)], 3, 40, [.int .i64 0, .int .i64 0, .slice none 0 0], some .batch⟩),
  (68, ⟨.ptr, 1, 8, [.pointer none], none⟩),
  (73, ⟨.strct [(0, 3), (1, 3), (2, 3), (3, 3), (4, 3), (5, 40), (6, 3), (7, 3), (8, 3), (9, 3)], 10, 80, [.int .i64 0, .int .i64 0, .int .i64 0, .int .i64 0, .int .i64 0, .int .i64 0, .int .i64 0, .int .i64 0, .int .i64 0, .int .i64 0], some .journey⟩),
  (83, ⟨.slice 56, 1, 24, [.slice none 0 0], none⟩),
  (121, ⟨.strct [(0, 3), (1, 3), (2, 3), (3, 54), (4, 83)], 5, 72, [.int .i64 0, .int .i64 0, .int .i64 0, .slice none 0 0, .slice none 0 0], none⟩)]
theorem tOk_batch_Book_Open : TOk Try.prog T_batch_Book_Open := tOk_of (by kernel_rfl)
def sp_batch_Book_Open : Spec := fun args hp => match args, hp with
  | [.ptr 0 0], [(0, .cells [.val (.int .i64 b_op), .val (.int .i64 b_last), .val (.int .i64 b_n), .slF 1, .slF 2]), (1, .row true .journey b_loose), (2, .row true .batch b_open)] => .vc (b_open.length ≤ 1048576 ∧ ∀ x ∈ b_open, x.js.length ≤ 1048576) (.slF 2000) [(2000, some (.row true .batch b_open))]
  | _, _ => .fail "batch_Book_Open"
abbrev k_batch_Book_Open : List (Option RK) := [none]
def a_batch_Book_Open : List SV → List (Nat × VB) → Anns := fun args hp => match args, hp with
  | [.ptr 0 0], [(0, .cells [.val (.int .i64 b_op), .val (.int .i64 b_last), .val (.int .i64 b_n), .slF 1, .slF 2]), (1, .row true .journey b_loose), (2, .row true .batch b_open)] => [(3, fun S => .inv [] [] [] fun ids vs rs => { cars := [.i 11 .i64, .r 3 true .batch], inv := fun ((i, ys, _) : Int × List Batch × Unit) => IOpen b_open i ys, mu := fun ((i, ys, _) : Int × List Batch × Unit) => b_open.length - i.toNat })]
  | _, _ => []
set_option maxHeartbeats 20000000 in
theorem ok_batch_Book_Open : GOk Try.prog 48 (lift k_batch_Book_Open sp_batch_Book_Open) := by
  refine pf_ok (T := T_batch_Book_Open) (Γ := (74, lift k_batch_copied sp_batch_copied) :: []) tOk_batch_Book_Open (gOks_cons ok_batch_copied (gOks_nil _)) mixed Try.func48 (c := body Try.f48) (by kernel_rfl) (by kernel_rfl) k_batch_Book_Open sp_batch_Book_Open (by kernel_rfl) (by kernel_rfl) a_batch_Book_Open ?_
  intro args hp s u hfit h
  unfold sp_batch_Book_Open at h
  split at h
  · rename_i b_op b_last b_n b_loose b_open
    obtain ⟨hvc, rfl, rfl⟩ := h.vc
    clear h hfit
    conv => whnf
    repeat' (first
      | (refine And.intro ?_ ?_ <;> try conv => whnf)
      | (intro hh; first | (cases hh; done) | conv => whnf))
    all_goals try first | rfl | kernel_rfl
    all_goals try simp only [decide_eq_true_eq, decide_eq_false_iff_not] at *
    all_goals try simp only [Key_eta, Share_eta, Journey_eta, Batch_eta, FieldT_eta, OpB_eta, Product_eta, Key_beq, Share_beq, Journey_beq, FieldT_beq, Product_beq, toNat0, toNat1, toNat2, toNat3, toNat4, toNat5, toNat6, toNat7, toNat8, toNat9, toNat10, toNat11, toNat12, toNat13, toNat14, toNat15, toNat16, toNat17, toNat18, toNat19, iA, iOf, atS, rwA, castK, zK, true_and, and_true, decide_eq_true_eq, decide_eq_false_iff_not, beq_iff_eq, bne_iff_ne, beq_eq_false_iff_ne, bne_eq_false_iff_eq, Bool.not_eq_true', Bool.not_eq_false', Bool.not_eq_true, Bool.not_eq_false, Nat.succ_eq_add_one, Int.not_lt, Int.not_le, gt_iff_lt, ge_iff_le, show bytesS T_batch_Book_Open 54 = 80 from rfl, show bytesS T_batch_Book_Open 83 = 40 from rfl] at *
    all_goals obtain ⟨h1, h2⟩ := hvc
    all_goals try (
      have q := ‹IOpen _ _ _›
      have e := iopen_more q h1
      specialize e (by assumption)
      obtain ⟨f1, f2, f3, f4, f5⟩ := e
      have f6 := h2 _ f2)
    all_goals try (refine Vc.mk ?_; first | omega | (simp only [List.length_cons, List.length_nil]; omega))
    · exact ⟨⟨0, Nat.zero_le _, rfl, rfl⟩⟩
    · exact ⟨f4, f5⟩
    · exact Res.mk (iopen_end ‹IOpen _ _ _› ‹_›)
  · exact h.fail.elim

end Go.Proofs.Ytncdakkigkmfjaa.Sx
