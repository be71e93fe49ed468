import Derived.Test.YtncdakkigkmfjaaProg
import Derived.Test.YtncdakkigkmfjaaSxU
import Derived.IntWalk
import Derived.Test.YtncdakkigkmfjaaB2r
/-! batch, Pack -/
namespace Go.Proofs.Ytncdakkigkmfjaa.Sx
open Go
set_option linter.unusedVariables false
set_option linter.unusedSimpArgs false
set_option maxRecDepth 100000

def T_batch_Book_Pack : TT := [(3, ⟨.int .i64, 1, 8, [.int .i64 0], some .int⟩),
  (4, ⟨.bool, 1, 1, [.bool false], some .bool⟩),
  (40, ⟨.int .i64, 1, 8, [.int .i64 0], none⟩),
  (54, ⟨.slice 73, 1, 24, [.slice none 0 0], none⟩),
  (56, ⟨.strct [(0, 3), (1, 3), (2, 54)], 3, 40, [.int .i64 0, .int .i64 0, .slice none 0 0], some .batch⟩),
  (68, ⟨.ptr, 1, 8, [.pointer none], none⟩),
  (73, ⟨.strct [(0, 3), (1, 3), (2, 3), (3, 3), (4, 3), (5, 40), (6, 3), (7, 3), (8, 3), (9, 3)], 10, 80, [.int .i64 0, .int .i64 0, .int .i64 0, .int .i64 0, .int .i64 0, .int .i64 0, .int .i64 0, .int .i64 0, .int .i64 0, .int .i64 0], some .journey⟩),
  (83, ⟨.slice 56, 1, 24, [.slice none 0 0], none⟩),
  (121, ⟨.strct [(0, 3), (1, 3), (2, 3), (3, 54), (4, 83)], 5, 72, [.int .i64 0, .int .i64 0, .int .i64 0, .slice none 0 0, .slice none 0 0], none⟩)]
theorem tOk_batch_Book_Pack : TOk Try.prog T_batch_Book_Pack := tOk_of (by kernel_rfl)
def sp_batch_Book_Pack : Spec := fun args hp => match args, hp with
  | [.ptr 0 0], [(0, .cells [.val (.int .i64 b_op), .val (.int .i64 b_last), .val (.int .i64 b_n), .slF 1, .slF 2]), (1, .row true .journey b_loose), (2, .row true .batch b_open)] => .vc (b_loose.length ≤ 1048576 ∧ b_open.length ≤ 1048576 ∧ 0 ≤ b_n ∧ b_n ≤ 2147483647) (.tup [.agg [iv (packX b_op b_n b_loose).op, iv (packX b_op b_n b_loose).n, .slF 2002], bv (canP b_n b_loose)]) [(0, some (.cells [iv b_op, iv b_last, iv (packN b_n b_loose), .slF 2000, .slF 2001])), (1, none), (2, none), (2000, some (.row true .journey (packL b_n b_loose))), (2001, some (.row true .batch (packO b_op b_n b_loose b_open))), (2002, some (.row true .journey (packX b_op b_n b_loose).js))]
  | _, _ => .fail "batch_Book_Pack"
abbrev k_batch_Book_Pack : List (Option RK) := [none]
def a_batch_Book_Pack : List SV → List (Nat × VB) → Anns := fun _ _ => []
set_option maxHeartbeats 20000000 in
theorem ok_batch_Book_Pack : GOk Try.prog 46 (lift k_batch_Book_Pack sp_batch_Book_Pack) := by
  refine pf_ok (T := T_batch_Book_Pack) (Γ := (73, lift k_slices_Clone_api_Journey_api_JourneyP sp_slices_Clone_api_Journey_api_JourneyP) :: (74, lift k_batch_copied sp_batch_copied) :: []) tOk_batch_Book_Pack (gOks_cons ok_slices_Clone_api_Journey_api_JourneyP (gOks_cons ok_batch_copied (gOks_nil _))) mixed Try.func46 (c := body Try.f46) (by kernel_rfl) (by kernel_rfl) k_batch_Book_Pack sp_batch_Book_Pack (by kernel_rfl) (by kernel_rfl) a_batch_Book_Pack ?_
  intro args hp s u hfit h
  unfold sp_batch_Book_Pack at h
  split at h
  · rename_i b_op b_last b_n b_loose b_open
    obtain ⟨hvc, rfl, rfl⟩ := h.vc
    clear h hfit
    conv => whnf
    repeat' (first
      | (refine And.intro ?_ ?_ <;> try conv => whnf)
      | (intro hh; first | (cases hh; done) | conv => whnf))
    all_goals try first | rfl | kernel_rfl
    all_goals try simp only [decide_eq_true_eq, decide_eq_false_iff_not] at *
    all_goals try simp only [Key_eta, Share_eta, Journey_eta, Batch_eta, FieldT_eta, OpB_eta, Product_eta, Key_beq, Share_beq, Journey_beq, FieldT_beq, Product_beq, toNat0, toNat1, toNat2, toNat3, toNat4, toNat5, toNat6, toNat7, toNat8, toNat9, toNat10, toNat11, toNat12, toNat13, toNat14, toNat15, toNat16, toNat17, toNat18, toNat19, iA, iOf, atS, rwA, castK, zK, true_and, and_true, decide_eq_true_eq, decide_eq_false_iff_not, beq_iff_eq, bne_iff_ne, beq_eq_false_iff_ne, bne_eq_false_iff_eq, Bool.not_eq_true', Bool.not_eq_false', Bool.not_eq_true, Bool.not_eq_false, Nat.succ_eq_add_one, Int.not_lt, Int.not_le, gt_iff_lt, ge_iff_le, show bytesS T_batch_Book_Pack 54 = 80 from rfl, show bytesS T_batch_Book_Pack 83 = 40 from rfl] at *
    all_goals obtain ⟨h1, h2, h3, h4⟩ := hvc
    all_goals (try simp only [cond_false, List.drop_zero, Nat.sub_zero, kTake, kDrop] at *)
    all_goals try (
      have hc := canP_no (loose := b_loose) (n := b_n) (.inl ‹_›)
      exact Res.mk (by simp [packX, packO, packL, packN, hc, zB]))
    all_goals try (
      have hc := canP_no (loose := b_loose) (n := b_n) (.inr ‹_›)
      exact Res.mk (by simp [packX, packO, packL, packN, hc, zB]))
    all_goals have hc := canP_yes ‹_› ‹_›
    all_goals try (refine Vc.mk ?_; split <;> omega)
    all_goals try (refine Vc.mk ?_; rw [List.length_take]; omega)
    all_goals try (refine Vc.mk ?_; rw [List.length_drop]; omega)
    all_goals try (refine Vc.mk ?_; simp only [List.length_cons, List.length_nil]; omega)
    · exact Res.mk (by simp [packX, packO, packL, packN, hc, wrap64 (n := b_n + 1) (by omega) (by omega)])
  · exact h.fail.elim

end Go.Proofs.Ytncdakkigkmfjaa.Sx
