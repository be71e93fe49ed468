import Derived.Test.YthbmllekbbfobaaProg
import Derived.Test.YthbmllekbbfobaaSxU
import Derived.IntWalk
import Derived.Test.YthbmllekbbfobaaR5r
/-! rules, shares -/
namespace Go.Proofs.Ythbmllekbbfobaa.Sx
open Go
set_option linter.unusedVariables false
set_option linter.unusedSimpArgs false
set_option maxRecDepth 100000

def T_fareboxlaw21_RulesShares : TT := [(3, ⟨.int .i64, 1, 8, [.int .i64 0], some .int⟩),
  (4, ⟨.bool, 1, 1, [.bool false], some .bool⟩),
  (27, ⟨.int .i64, 1, 8, [.int .i64 0], some .int⟩),
  (41, ⟨.slice 3, 1, 24, [.slice none 0 0], none⟩),
  (56, ⟨.int .i64, 1, 8, [.int .i64 0], some .int⟩),
  (88, ⟨.strct [(0, 3), (1, 3), (2, 41)], 3, 40, [.int .i64 0, .int .i64 0, .slice none 0 0], some .rule⟩),
  (90, ⟨.strct [(0, 3), (1, 3), (2, 3), (3, 3), (4, 3), (5, 56), (6, 3), (7, 3), (8, 3), (9, 3)], 10, 80, [.int .i64 0, .int .i64 0, .int .i64 0, .int .i64 0, .int .i64 0, .int .i64 0, .int .i64 0, .int .i64 0, .int .i64 0, .int .i64 0], some .journey⟩),
  (91, ⟨.ptr, 1, 8, [.pointer none], none⟩),
  (95, ⟨.slice 88, 1, 24, [.slice none 0 0], none⟩),
  (97, ⟨.slice 101, 1, 24, [.slice none 0 0], none⟩),
  (101, ⟨.strct [(0, 3), (1, 3)], 2, 16, [.int .i64 0, .int .i64 0], some .share⟩)]
theorem tOk_fareboxlaw21_RulesShares : TOk Try.prog T_fareboxlaw21_RulesShares := tOk_of (by kernel_rfl)
def sp_fareboxlaw21_RulesShares : Spec := fun args hp => match args, hp with
  | [.val (.int .i64 ops), .agg [.val (.int .i64 r_owner), .val (.int .i64 r_op), .slF 0], .agg j_cs], [(0, .row false .int r_weights)] => (match decS .journey j_cs with
    | some j => .vc (-9223372036854775808 ≤ ops ∧ ops ≤ 9223372036854775807 ∧ (⟨r_owner, r_op, r_weights⟩ : Rule).weights.length ≤ 1048576 ∧ ∀ n ∈ (⟨r_owner, r_op, r_weights⟩ : Rule).weights, -9223372036854775808 ≤ n ∧ n ≤ 9223372036854775807) (bv true) []
    | none => .fail "struct")
  | _, _ => .fail "fareboxlaw21_RulesShares"
abbrev k_fareboxlaw21_RulesShares : List (Option RK) := [none, none, none]
def a_fareboxlaw21_RulesShares : List SV → List (Nat × VB) → Anns := fun args hp => match args, hp with
  | [.val (.int .i64 ops), .agg [.val (.int .i64 r_owner), .val (.int .i64 r_op), .slF 0], .agg j_cs], [(0, .row false .int r_weights)] => (match decS .journey j_cs with
    | some j => [(17, fun S => .inv [] [] [] fun ids vs rs => { cars := [.i 15 .i64, .i 14 .i64], inv := fun ((i, sum, _) : Int × Int × Unit) => ISs (lOf ops (⟨r_owner, r_op, r_weights⟩ : Rule) j) i sum, mu := fun ((i, sum, _) : Int × Int × Unit) => (lOf ops (⟨r_owner, r_op, r_weights⟩ : Rule) j).length - i.toNat })]
    | none => [])
  | _, _ => []
set_option maxHeartbeats 20000000 in
theorem ok_fareboxlaw21_RulesShares : GOk Try.prog 10 (lift k_fareboxlaw21_RulesShares sp_fareboxlaw21_RulesShares) := by
  refine pf_ok (T := T_fareboxlaw21_RulesShares) (Γ := (41, lift k_fareboxlaw21_awake sp_fareboxlaw21_awake) :: (42, lift k_rules_New sp_rules_New) :: (44, lift k_fareboxlaw21_copied sp_fareboxlaw21_copied) :: (43, lift k_rules_Set_Put sp_rules_Set_Put) :: (45, lift k_rules_Set_Share sp_rules_Set_Share) :: []) tOk_fareboxlaw21_RulesShares (gOks_cons ok_fareboxlaw21_awake (gOks_cons ok_rules_New (gOks_cons ok_fareboxlaw21_copied (gOks_cons ok_rules_Set_Put (gOks_cons ok_rules_Set_Share (gOks_nil _)))))) mixed Try.func10 (c := body Try.f10) (by kernel_rfl) (by kernel_rfl) k_fareboxlaw21_RulesShares sp_fareboxlaw21_RulesShares (by kernel_rfl) (by kernel_rfl) a_fareboxlaw21_RulesShares ?_
  intro args hp s u hfit h
  unfold sp_fareboxlaw21_RulesShares at h
  split at h
  · rename_i ops r_owner r_op j_cs r_weights
    split at h
    case h_2 => exact h.fail.elim
    rename_i j h_j
    obtain rfl := decS_ok (k := .journey) rfl h_j
    clear h_j
    change Journey at j
    obtain ⟨hvc, rfl, rfl⟩ := h.vc
    clear h hfit
    conv => whnf
    repeat' (first
      | (refine And.intro ?_ ?_ <;> try conv => whnf)
      | (intro hh; first | (cases hh; done) | conv => whnf))
    all_goals try first | rfl | kernel_rfl
    all_goals try simp only [decide_eq_true_eq, decide_eq_false_iff_not] at *
    all_goals try simp only [Key_eta, Share_eta, Journey_eta, Batch_eta, FieldT_eta, OpB_eta, Product_eta, Item_eta, Delta_eta, Elem_eta, Rule_eta, Do10_eta, Ask_eta, Key_beq, Share_beq, Journey_beq, FieldT_beq, Product_beq, Item_beq, Do10_beq, Ask_beq, toNat0, toNat1, toNat2, toNat3, toNat4, toNat5, toNat6, toNat7, toNat8, toNat9, toNat10, toNat11, toNat12, toNat13, toNat14, toNat15, toNat16, toNat17, toNat18, toNat19, iA, iOf, atS, rwA, castK, zK, true_and, and_true, decide_eq_true_eq, decide_eq_false_iff_not, beq_iff_eq, bne_iff_ne, beq_eq_false_iff_ne, bne_eq_false_iff_eq, Bool.not_eq_true', Bool.not_eq_false', Bool.not_eq_true, Bool.not_eq_false, Nat.succ_eq_add_one, Int.not_lt, Int.not_le, gt_iff_lt, ge_iff_le, show bytesS T_fareboxlaw21_RulesShares 41 = 8 from rfl, show bytesS T_fareboxlaw21_RulesShares 95 = 40 from rfl, show bytesS T_fareboxlaw21_RulesShares 97 = 16 from rfl] at *
    all_goals obtain ⟨ho0, ho1, hL, hW⟩ := hvc
    all_goals have hN := nOf_in ops
    all_goals have en : IntKind.i64.wrap (1 + (IntKind.i64.wrap (ops.tmod 4 + 4)).tmod 4) = nOf ops := rfl
    all_goals try simp only [en] at *
    all_goals have ej : (⟨r_op, j.seq, j.card, r_owner, j.id, j.kind, j.frm, j.to, j.fare, j.day⟩ : Journey) = jOf ⟨r_owner, r_op, r_weights⟩ j := rfl
    all_goals try simp only [ej] at *
    all_goals have hO := okset_puts (rs := [⟨r_owner, r_op, r_weights⟩]) (okset_nil (ops := nOf ops) hN)
    all_goals have hl := okset_len hO
    all_goals have el : shL (nOf ops) (putRs (nOf ops) [] [⟨r_owner, r_op, r_weights⟩]) (jOf ⟨r_owner, r_op, r_weights⟩ j) = lOf ops ⟨r_owner, r_op, r_weights⟩ j := rfl
    all_goals try simp only [el] at *
    all_goals try (
      have hS := lOf_spec ‹putRE (nOf ops) [⟨r_owner, r_op, r_weights⟩] = 0› ‹shE (nOf ops) (putRs (nOf ops) [] [⟨r_owner, r_op, r_weights⟩]) (jOf ⟨r_owner, r_op, r_weights⟩ j) = 0›
      obtain ⟨hs0, hs1, hs2, hs3, hs4, hs5⟩ := hS
      replace hs0 : lOf ops ⟨r_owner, r_op, r_weights⟩ j = shR r_owner j.fare r_weights := hs0
      have hpos : 0 < (lOf ops ⟨r_owner, r_op, r_weights⟩ j).length := by rw [hs0, shR, List.length_cons]; omega
      have hll : (lOf ops ⟨r_owner, r_op, r_weights⟩ j).length ≤ 1 + r_weights.length := by
        have q1 := partsL_len (l := splitL j.fare r_weights) (i := 0)
        have q2 := sL_le (a := j.fare) (ws := r_weights)
        rw [hs0, shR, List.length_cons]
        omega
      have hg0 : (lOf ops ⟨r_owner, r_op, r_weights⟩ j).getD 0 ⟨0, 0⟩ = ⟨r_owner, -j.fare⟩ := by rw [hs0]; rfl)
    all_goals try (
      have hex := ‹ISs _ _ _›
      obtain ⟨k, hk, rfl, rfl⟩ := hex)
    all_goals try simp only [Int.toNat_natCast] at *
    all_goals try (
      have hm := hs4 _ (mem_getD (d := (⟨0, 0⟩ : Share)) (show k < (lOf ops ⟨r_owner, r_op, r_weights⟩ j).length by omega)))
    all_goals try (refine Vc.mk ?_; first | decide | omega | exact ⟨by omega, hO⟩)
    · exact Vc.mk ⟨by simp, by simpa using hL⟩
    · exact Vc.mk ⟨okset_nil hN, by simp, by simpa using ⟨hL, hW⟩⟩
    · refine Res.mk ?_
      rw [puts_none (putRE_non ‹_›)]
      exact shE_none
    · have h := lOf_two (ops := ops) (j := j) ‹putRE (nOf ops) [⟨r_owner, r_op, r_weights⟩] = 0› (by omega)
      exact Res.mk (by rw [h.2]; rfl)
    · have h := lOf_two (ops := ops) (j := j) ‹putRE (nOf ops) [⟨r_owner, r_op, r_weights⟩] = 0› (by assumption)
      exfalso
      exact absurd h.1 (by assumption)
    · exact ⟨⟨0, Nat.zero_le _, rfl, rfl⟩⟩
    · exfalso; omega
    · exfalso; omega
    · have h := hs5 k (by omega) (by omega)
      exfalso; omega
    all_goals try (
      have h1 := hs3 (k + 1)
      have ht : ((lOf ops ⟨r_owner, r_op, r_weights⟩ j).take (k + 1)).map (·.amount) = ((lOf ops ⟨r_owner, r_op, r_weights⟩ j).take k).map (·.amount) ++ [((lOf ops ⟨r_owner, r_op, r_weights⟩ j).getD k ⟨0, 0⟩).amount] := by rw [take_getD (d := (⟨0, 0⟩ : Share)) (by omega), List.map_append]; rfl
      rw [ht, List.sum_append, List.sum_cons, List.sum_nil, Int.add_zero] at h1)
    · refine ⟨⟨k + 1, by omega, by rw [wrap64] <;> omega, ?_⟩, by rw [wrap64] <;> omega⟩
      rw [ht, List.sum_append, List.sum_cons, List.sum_nil, Int.add_zero, wrap64 (by omega) (by omega)]
    · refine ⟨⟨k + 1, by omega, by rw [wrap64] <;> omega, ?_⟩, by rw [wrap64] <;> omega⟩
      rw [ht, List.sum_append, List.sum_cons, List.sum_nil, Int.add_zero, wrap64 (by omega) (by omega)]
    · refine Res.mk ?_
      rw [hg0, wrap64 (by omega) (by omega)]
      simp
    all_goals exfalso
    all_goals try omega
    all_goals (
      have e : (lOf ops ⟨r_owner, r_op, r_weights⟩ j).take k = lOf ops ⟨r_owner, r_op, r_weights⟩ j := List.take_of_length_le (by omega)
      simp only [e] at *
      first | contradiction | exact absurd hs2 (by assumption) | omega)
  · exact h.fail.elim

end Go.Proofs.Ythbmllekbbfobaa.Sx
