import Derived.Test.YthbmllekbbfobaaProg
import Derived.Test.YthbmllekbbfobaaSxU
import Derived.IntWalk
import Derived.Test.YthbmllekbbfobaaL12c1
/-! lists, For -/
namespace Go.Proofs.Ythbmllekbbfobaa.Sx
open Go
set_option linter.unusedVariables false
set_option linter.unusedSimpArgs false
set_option maxRecDepth 100000

def T_fareboxlaw12_same : TT := [(3, ⟨.int .i64, 1, 8, [.int .i64 0], some .int⟩),
  (4, ⟨.bool, 1, 1, [.bool false], some .bool⟩),
  (22, ⟨.slice 52, 1, 24, [.slice none 0 0], none⟩),
  (52, ⟨.strct [(0, 3), (1, 3), (2, 3), (3, 3), (4, 3)], 5, 40, [.int .i64 0, .int .i64 0, .int .i64 0, .int .i64 0, .int .i64 0], some .item⟩),
  (75, ⟨.other, 1, 8, [.nilFunc], none⟩)]
theorem tOk_fareboxlaw12_same : TOk Try.prog T_fareboxlaw12_same := tOk_of (by kernel_rfl)
def sp_fareboxlaw12_same : Spec := fun args hp => match args, hp with
  | [.fn (.func 134) [] [.ptr 0 0], .slF 1], [(0, .cells [.slP 2 q_s_i q_s_n]), (1, .row o_want .item want), (2, .row o_q_s .item q_s)] => .vc (((q_s.drop q_s_i).take q_s_n).length ≤ 4096 ∧ want.length ≤ 1048576) (bv (decide ((q_s.drop q_s_i).take q_s_n = want))) [(0, none), (2, none)]
  | _, _ => .fail "fareboxlaw12_same"
abbrev k_fareboxlaw12_same : List (Option RK) := [none, some .item]
def a_fareboxlaw12_same : List SV → List (Nat × VB) → Anns := fun args hp => match args, hp with
  | [.fn (.func 134) [] [.ptr 0 0], .slF 1], [(0, .cells [.slP 2 q_s_i q_s_n]), (1, .row o_want .item want), (2, .row o_q_s .item q_s)] => [(3, fun S => .each [pOf (S.get 5)] [] [] fun ids vs rs => { cars := [.blk (atN ids 0) [.i .i64]], inv := fun k (((n, _), _) : (Int × Unit) × Unit) => ISm ((q_s.drop q_s_i).take q_s_n) want n k })]
  | _, _ => []
set_option maxHeartbeats 20000000 in
theorem ok_fareboxlaw12_same : GOk Try.prog 39 (lift k_fareboxlaw12_same sp_fareboxlaw12_same) := by
  refine pf_ok (T := T_fareboxlaw12_same) (Γ := (134, itValues .item true) :: []) tOk_fareboxlaw12_same (gOks_cons ok_slices_Values_api_Item_api_Item_1 (gOks_nil _)) mixed Try.func39 (c := body Try.f39) (by kernel_rfl) (by kernel_rfl) k_fareboxlaw12_same sp_fareboxlaw12_same (by kernel_rfl) (by kernel_rfl) a_fareboxlaw12_same ?_
  intro args hp s u hfit h
  unfold sp_fareboxlaw12_same at h
  split at h
  · rename_i q_s_i q_s_n o_want want o_q_s q_s
    obtain ⟨hvc, rfl, rfl⟩ := h.vc
    clear h hfit
    change List Item at want
    conv => whnf
    repeat' (first
      | (refine And.intro ?_ ?_ <;> try conv => whnf)
      | (intro hh; first | (cases hh; done) | conv => whnf))
    all_goals try first | rfl | kernel_rfl
    all_goals try simp only [decide_eq_true_eq, decide_eq_false_iff_not] at *
    all_goals try simp only [Key_eta, Share_eta, Journey_eta, Batch_eta, FieldT_eta, OpB_eta, Product_eta, Item_eta, Delta_eta, Elem_eta, Rule_eta, Do10_eta, Ask_eta, Key_beq, Share_beq, Journey_beq, FieldT_beq, Product_beq, Item_beq, Do10_beq, Ask_beq, toNat0, toNat1, toNat2, toNat3, toNat4, toNat5, toNat6, toNat7, toNat8, toNat9, toNat10, toNat11, toNat12, toNat13, toNat14, toNat15, toNat16, toNat17, toNat18, toNat19, iA, iOf, atS, rwA, castK, zK, true_and, and_true, decide_eq_true_eq, decide_eq_false_iff_not, beq_iff_eq, bne_iff_ne, beq_eq_false_iff_ne, bne_eq_false_iff_eq, Bool.not_eq_true', Bool.not_eq_false', Bool.not_eq_true, Bool.not_eq_false, Nat.succ_eq_add_one, Int.not_lt, Int.not_le, gt_iff_lt, ge_iff_le, show bytesS T_fareboxlaw12_same 22 = 40 from rfl] at *
    all_goals obtain ⟨hL, hW⟩ := hvc
    all_goals generalize (q_s.drop q_s_i).take q_s_n = l at *
    all_goals try (
      have z := ‹ISm _ _ _ _›
      obtain ⟨rfl, m1, m2, m3⟩ := z)
    all_goals try simp only [Int.toNat_natCast] at *
    all_goals try (refine Vc.mk ?_; omega)
    · exact Nat.le_trans hL (by decide)
    · exact ⟨⟨rfl, by omega, by omega, by simp⟩⟩
    · refine Res.mk (decide_eq_false fun e => ?_).symm
      subst e
      omega
    · refine Res.mk (decide_eq_false fun e => ?_).symm
      subst e
      first | (have hne := ‹_ ≠ _›; exact hne rfl) | simp_all
    · rw [wrap64 (by omega) (by omega)]
      exact ⟨⟨by omega, by omega, by omega, sm_next (by omega) (by omega) m3 (by first | assumption | (apply Decidable.of_not_not; assumption))⟩, trivial⟩
    · rw [List.take_length] at m3
      refine Res.mk ?_
      rw [Bool.eq_iff_iff, beq_iff_eq, decide_eq_true_eq]
      constructor
      · intro h
        rw [m3]
        exact List.take_of_length_le (by omega)
      · intro h; rw [h]
  · exact h.fail.elim

end Go.Proofs.Ythbmllekbbfobaa.Sx
