import Derived.Test.YtncdakkigkmfjaaProg
import Derived.Test.YtncdakkigkmfjaaSxU
import Derived.IntWalk
import Derived.Test.YtncdakkigkmfjaaM3s2
/-! fareboxref05, Split -/
namespace Go.Proofs.Ytncdakkigkmfjaa.Sx
open Go
set_option linter.unusedVariables false
set_option linter.unusedSimpArgs false
set_option maxRecDepth 100000

def T_fareboxlaw05_awake : TT := [(3, ⟨.int .i64, 1, 8, [.int .i64 0], some .int⟩),
  (4, ⟨.bool, 1, 1, [.bool false], some .bool⟩),
  (24, ⟨.slice 3, 1, 24, [.slice none 0 0], none⟩),
  (27, ⟨.int .i64, 1, 8, [.int .i64 0], none⟩)]
theorem tOk_fareboxlaw05_awake : TOk Try.prog T_fareboxlaw05_awake := tOk_of (by kernel_rfl)
def sp_fareboxlaw05_awake : Spec := fun args hp => match args, hp with
  | [], [] => .ok (bv true) []
  | _, _ => .fail "fareboxlaw05_awake"
abbrev k_fareboxlaw05_awake : List (Option RK) := []
def a_fareboxlaw05_awake : List SV → List (Nat × VB) → Anns := fun _ _ => []
set_option maxHeartbeats 20000000 in
theorem ok_fareboxlaw05_awake : GOk Try.prog 57 (lift k_fareboxlaw05_awake sp_fareboxlaw05_awake) := by
  refine pf_ok (T := T_fareboxlaw05_awake) (Γ := (58, lift k_money_Split sp_money_Split) :: (81, lift k_money_Sum sp_money_Sum) :: []) tOk_fareboxlaw05_awake (gOks_cons ok_money_Split (gOks_cons ok_money_Sum (gOks_nil _))) mixed Try.func57 (c := body Try.f57) (by kernel_rfl) (by kernel_rfl) k_fareboxlaw05_awake sp_fareboxlaw05_awake (by kernel_rfl) (by kernel_rfl) a_fareboxlaw05_awake ?_
  intro args hp s u hfit h
  unfold sp_fareboxlaw05_awake at h
  split at h
  · skip
    obtain ⟨rfl, rfl⟩ := h.ok
    clear h hfit
    conv => whnf
    repeat' (first
      | (refine And.intro ?_ ?_ <;> try conv => whnf)
      | (intro hh; first | (cases hh; done) | conv => whnf))
    all_goals try first | rfl | kernel_rfl
    all_goals try simp only [decide_eq_true_eq, decide_eq_false_iff_not] at *
    all_goals try simp only [Key_eta, Share_eta, Journey_eta, Batch_eta, FieldT_eta, OpB_eta, Product_eta, Key_beq, Share_beq, Journey_beq, FieldT_beq, Product_beq, toNat0, toNat1, toNat2, toNat3, toNat4, toNat5, toNat6, toNat7, toNat8, toNat9, toNat10, toNat11, toNat12, toNat13, toNat14, toNat15, toNat16, toNat17, toNat18, toNat19, iA, iOf, atS, zK, true_and, and_true, decide_eq_true_eq, decide_eq_false_iff_not, beq_iff_eq, bne_iff_ne, beq_eq_false_iff_ne, bne_eq_false_iff_eq, Bool.not_eq_true', Bool.not_eq_false', Bool.not_eq_true, Bool.not_eq_false, Nat.succ_eq_add_one, Int.not_lt, Int.not_le, gt_iff_lt, ge_iff_le, show bytesS T_fareboxlaw05_awake 24 = 8 from rfl] at *
    all_goals (
      obtain ⟨e1, e2, e3, e4⟩ := awk1
      simp only [e1, e2, e3, e4] at *)
    all_goals first
      | exact Res.mk trivial
      | exact Res.mk rfl
      | exact Vc.mk (by decide)
      | exact Vc.mk ⟨by decide, by decide⟩
      | (exfalso; simp at *; done)
  · exact h.fail.elim

def T_fareboxlaw05_MoneySplits : TT := [(3, ⟨.int .i64, 1, 8, [.int .i64 0], some .int⟩),
  (4, ⟨.bool, 1, 1, [.bool false], some .bool⟩),
  (24, ⟨.slice 3, 1, 24, [.slice none 0 0], none⟩),
  (27, ⟨.int .i64, 1, 8, [.int .i64 0], none⟩)]
theorem tOk_fareboxlaw05_MoneySplits : TOk Try.prog T_fareboxlaw05_MoneySplits := tOk_of (by kernel_rfl)
def sp_fareboxlaw05_MoneySplits : Spec := fun args hp => match args, hp with
  | [.val (.int .i64 a), .slF 0], [(0, .row o_ws .int ws)] => .vc (-9223372036854775808 ≤ a ∧ a ≤ 9223372036854775807 ∧ ws.length ≤ 1048576 ∧ ∀ n ∈ ws, -9223372036854775808 ≤ n ∧ n ≤ 9223372036854775807) (bv true) []
  | _, _ => .fail "fareboxlaw05_MoneySplits"
abbrev k_fareboxlaw05_MoneySplits : List (Option RK) := [none, some .int]
def a_fareboxlaw05_MoneySplits : List SV → List (Nat × VB) → Anns := fun args hp => match args, hp with
  | [.val (.int .i64 a), .slF 0], [(0, .row o_ws .int ws)] => [(9, fun S => .inv [] [] fun ids vs => { cars := [.i 10 .i64], inv := fun ((i, _) : Int × Unit) => 0 ≤ i ∧ i ≤ (splitL a ws).length, mu := fun ((i, _) : Int × Unit) => (splitL a ws).length - i.toNat })]
  | _, _ => []
set_option maxHeartbeats 20000000 in
theorem ok_fareboxlaw05_MoneySplits : GOk Try.prog 14 (lift k_fareboxlaw05_MoneySplits sp_fareboxlaw05_MoneySplits) := by
  refine pf_ok (T := T_fareboxlaw05_MoneySplits) (Γ := (57, lift k_fareboxlaw05_awake sp_fareboxlaw05_awake) :: (58, lift k_money_Split sp_money_Split) :: (59, lift k_fareboxref05_Split sp_fareboxref05_Split) :: []) tOk_fareboxlaw05_MoneySplits (gOks_cons ok_fareboxlaw05_awake (gOks_cons ok_money_Split (gOks_cons ok_fareboxref05_Split (gOks_nil _)))) mixed Try.func14 (c := body Try.f14) (by kernel_rfl) (by kernel_rfl) k_fareboxlaw05_MoneySplits sp_fareboxlaw05_MoneySplits (by kernel_rfl) (by kernel_rfl) a_fareboxlaw05_MoneySplits ?_
  intro args hp s u hfit h
  unfold sp_fareboxlaw05_MoneySplits at h
  split at h
  · rename_i a o_ws ws
    obtain ⟨hvc, rfl, rfl⟩ := h.vc
    clear h hfit
    change List Int at ws
    conv => whnf
    repeat' (first
      | (refine And.intro ?_ ?_ <;> try conv => whnf)
      | (intro hh; first | (cases hh; done) | conv => whnf))
    all_goals try first | rfl | kernel_rfl
    all_goals try simp only [decide_eq_true_eq, decide_eq_false_iff_not] at *
    all_goals try simp only [Key_eta, Share_eta, Journey_eta, Batch_eta, FieldT_eta, OpB_eta, Product_eta, Key_beq, Share_beq, Journey_beq, FieldT_beq, Product_beq, toNat0, toNat1, toNat2, toNat3, toNat4, toNat5, toNat6, toNat7, toNat8, toNat9, toNat10, toNat11, toNat12, toNat13, toNat14, toNat15, toNat16, toNat17, toNat18, toNat19, iA, iOf, atS, zK, true_and, and_true, decide_eq_true_eq, decide_eq_false_iff_not, beq_iff_eq, bne_iff_ne, beq_eq_false_iff_ne, bne_eq_false_iff_eq, Bool.not_eq_true', Bool.not_eq_false', Bool.not_eq_true, Bool.not_eq_false, Nat.succ_eq_add_one, Int.not_lt, Int.not_le, gt_iff_lt, ge_iff_le, show bytesS T_fareboxlaw05_MoneySplits 24 = 8 from rfl] at *
    all_goals obtain ⟨hA, hA', hL, hR⟩ := hvc
    all_goals try simp only [List.nil_append] at *
    all_goals have p1 := splitL_length (a := a) (ws := ws)
    all_goals try (refine Vc.mk ?_; omega)
    all_goals try (refine Vc.mk ?_; simp only [List.length_nil]; omega)
    all_goals try exact Vc.mk ⟨by omega, hR⟩
    all_goals try exact Res.mk trivial
    all_goals try exact ⟨by omega⟩
    all_goals try (exact ⟨by rw [wrap64 (by omega) (by omega)]; omega, by rw [wrap64 (by omega) (by omega)]; omega⟩)
    all_goals exfalso
    all_goals first
      | (have h := ‹_ ≠ _›; exact h rfl)
      | (cases hr : rightM a ws <;> simp_all [splitE]; done)
  · exact h.fail.elim

end Go.Proofs.Ytncdakkigkmfjaa.Sx
