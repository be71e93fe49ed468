import Derived.Test.YtncdakkigkmfjaaProg
import Derived.Test.YtncdakkigkmfjaaSxU
import Derived.IntWalk
import Derived.Test.YtncdakkigkmfjaaF7r
/-! fare, FareBatches -/
namespace Go.Proofs.Ytncdakkigkmfjaa.Sx
open Go
set_option linter.unusedVariables false
set_option linter.unusedSimpArgs false
set_option maxRecDepth 100000

def T_fareboxlaw13_FareBatches : TT := [(3, ⟨.int .i64, 1, 8, [.int .i64 0], some .int⟩),
  (4, ⟨.bool, 1, 1, [.bool false], some .bool⟩),
  (5, ⟨.int .u8, 1, 1, [.int .u8 0], some .u8⟩),
  (9, ⟨.str, 1, 16, [.string .empty], some .str⟩),
  (27, ⟨.int .i64, 1, 8, [.int .i64 0], none⟩),
  (40, ⟨.int .i64, 1, 8, [.int .i64 0], none⟩),
  (54, ⟨.slice 73, 1, 24, [.slice none 0 0], none⟩),
  (56, ⟨.strct [(0, 3), (1, 3), (2, 54)], 3, 40, [.int .i64 0, .int .i64 0, .slice none 0 0], some .batch⟩),
  (57, ⟨.slice 5, 1, 24, [.slice none 0 0], none⟩),
  (73, ⟨.strct [(0, 3), (1, 3), (2, 3), (3, 3), (4, 3), (5, 40), (6, 3), (7, 3), (8, 3), (9, 3)], 10, 80, [.int .i64 0, .int .i64 0, .int .i64 0, .int .i64 0, .int .i64 0, .int .i64 0, .int .i64 0, .int .i64 0, .int .i64 0, .int .i64 0], some .journey⟩)]
theorem tOk_fareboxlaw13_FareBatches : TOk Try.prog T_fareboxlaw13_FareBatches := tOk_of (by kernel_rfl)
def sp_fareboxlaw13_FareBatches : Spec := fun args hp => match args, hp with
  | [.agg [.val (.int .i64 x_op), .val (.int .i64 x_n), .slF 0], .slF 1], [(0, .row o_x_js .journey x_js), (1, .row o_b .u8 b)] => .vc ((⟨x_op, x_n, x_js⟩ : Batch).js.length ≤ 1048576 ∧ b.length ≤ 1048576 ∧ isB b) (bv true) []
  | _, _ => .fail "fareboxlaw13_FareBatches"
abbrev k_fareboxlaw13_FareBatches : List (Option RK) := [none, some .u8]
def a_fareboxlaw13_FareBatches : List SV → List (Nat × VB) → Anns := fun _ _ => []
set_option maxHeartbeats 20000000 in
theorem ok_fareboxlaw13_FareBatches : GOk Try.prog 9 (lift k_fareboxlaw13_FareBatches sp_fareboxlaw13_FareBatches) := by
  refine pf_ok (T := T_fareboxlaw13_FareBatches) (Γ := (29, lift k_fareboxlaw13_awake sp_fareboxlaw13_awake) :: (35, lift k_fare_PutBatch sp_fare_PutBatch) :: (36, lift k_fareboxref13_Batch sp_fareboxref13_Batch) :: (37, lift k_fare_GetBatch sp_fare_GetBatch) :: (38, lift k_fareboxref13_BatchForm sp_fareboxref13_BatchForm) :: (39, lift k_fareboxref13_Same sp_fareboxref13_Same) :: (40, lift k_fareboxref13_GetBatch sp_fareboxref13_GetBatch) :: []) tOk_fareboxlaw13_FareBatches (gOks_cons ok_fareboxlaw13_awake (gOks_cons ok_fare_PutBatch (gOks_cons ok_fareboxref13_Batch (gOks_cons ok_fare_GetBatch (gOks_cons ok_fareboxref13_BatchForm (gOks_cons ok_fareboxref13_Same (gOks_cons ok_fareboxref13_GetBatch (gOks_nil _)))))))) mixed Try.func9 (c := body Try.f9) (by kernel_rfl) (by kernel_rfl) k_fareboxlaw13_FareBatches sp_fareboxlaw13_FareBatches (by kernel_rfl) (by kernel_rfl) a_fareboxlaw13_FareBatches ?_
  intro args hp s u hfit h
  unfold sp_fareboxlaw13_FareBatches at h
  split at h
  · rename_i x_op x_n o_x_js x_js o_b b
    obtain ⟨hvc, rfl, rfl⟩ := h.vc
    clear h hfit
    change List Int at b
    conv => whnf
    repeat' (first
      | (refine And.intro ?_ ?_ <;> try conv => whnf)
      | (intro hh; first | (cases hh; done) | conv => whnf))
    all_goals try first | rfl | kernel_rfl
    all_goals try simp only [decide_eq_true_eq, decide_eq_false_iff_not] at *
    all_goals try simp only [Key_eta, Share_eta, Journey_eta, Batch_eta, FieldT_eta, OpB_eta, Product_eta, Key_beq, Share_beq, Journey_beq, FieldT_beq, Product_beq, toNat0, toNat1, toNat2, toNat3, toNat4, toNat5, toNat6, toNat7, toNat8, toNat9, toNat10, toNat11, toNat12, toNat13, toNat14, toNat15, toNat16, toNat17, toNat18, toNat19, iA, iOf, atS, rwA, castK, zK, true_and, and_true, decide_eq_true_eq, decide_eq_false_iff_not, beq_iff_eq, bne_iff_ne, beq_eq_false_iff_ne, bne_eq_false_iff_eq, Bool.not_eq_true', Bool.not_eq_false', Bool.not_eq_true, Bool.not_eq_false, Nat.succ_eq_add_one, Int.not_lt, Int.not_le, gt_iff_lt, ge_iff_le, show bytesS T_fareboxlaw13_FareBatches 54 = 80 from rfl, show bytesS T_fareboxlaw13_FareBatches 57 = 1 from rfl] at *
    all_goals obtain ⟨hL, hLb, hB⟩ := hvc
    all_goals (try simp only [List.nil_append] at *)
    all_goals try (exact Res.mk trivial)
    all_goals have p1 := putBB_length ⟨x_op, x_n, x_js⟩
    all_goals have p2 := getB_length b
    all_goals have p3 := getB_length (putBB ⟨x_op, x_n, x_js⟩)
    all_goals have p4 := putBB_isB ⟨x_op, x_n, x_js⟩
    all_goals (try simp only at p1 p3)
    all_goals try (refine Vc.mk ?_; first | omega | assumption | (simp only [List.length_nil]; omega))
    all_goals try (refine Vc.mk ⟨?_, ?_⟩ <;> first | omega | assumption)
    all_goals refine Res.mk ?_
    all_goals try (
      have e0 := ‹getBE b = 0›
      rw [(putBB_getB hB e0).2]
      done)
    all_goals exfalso
    all_goals (
      by_cases e0 : getBE b = 0
      · obtain ⟨m1, m2⟩ := putBB_getB hB e0
        cases hr : rightB ⟨x_op, x_n, x_js⟩
        · (simp_all [putBE, putBB]; done)
        · obtain ⟨k1, k2⟩ := getB_putBB hr
          (simp_all [putBE, putBB]; done)
      · cases hr : rightB ⟨x_op, x_n, x_js⟩
        · (simp_all [putBE, putBB]; done)
        · obtain ⟨k1, k2⟩ := getB_putBB hr
          (simp_all [putBE, putBB]; done))
  · exact h.fail.elim

end Go.Proofs.Ytncdakkigkmfjaa.Sx
