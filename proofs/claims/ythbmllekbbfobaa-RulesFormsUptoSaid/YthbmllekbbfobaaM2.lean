import Derived.Test.YthbmllekbbfobaaProg
import Derived.Test.YthbmllekbbfobaaSxU
import Derived.IntWalk
import Derived.Test.YthbmllekbbfobaaM2r
/-! money, Split -/
namespace Go.Proofs.Ythbmllekbbfobaa.Sx
open Go
set_option linter.unusedVariables false
set_option linter.unusedSimpArgs false
set_option maxRecDepth 100000

def T_money_Split : TT := [(3, ⟨.int .i64, 1, 8, [.int .i64 0], some .int⟩),
  (4, ⟨.bool, 1, 1, [.bool false], some .bool⟩),
  (27, ⟨.int .i64, 1, 8, [.int .i64 0], some .int⟩),
  (41, ⟨.slice 3, 1, 24, [.slice none 0 0], none⟩),
  (169, ⟨.other, 1, 8, [.nilFunc], none⟩)]
theorem tOk_money_Split : TOk Try.prog T_money_Split := tOk_of (by kernel_rfl)
def sp_money_Split : Spec := fun args hp => match args, hp with
  | [.val (.int .i64 a), .slF 0], [(0, .row o_ws .int ws)] => .vc (ws.length ≤ 1099511627776 ∧ ∀ n ∈ ws, -9223372036854775808 ≤ n ∧ n ≤ 9223372036854775807) (.tup [.slF 2000, iv (splitE a ws)]) [(2000, some (.row true .int (splitL a ws)))]
  | _, _ => .fail "money_Split"
abbrev k_money_Split : List (Option RK) := [none, some .int]
def a_money_Split : List SV → List (Nat × VB) → Anns := fun args hp => match args, hp with
  | [.val (.int .i64 a), .slF 0], [(0, .row o_ws .int ws)] => [(8, fun S => .inv [pOf (S.get 8), pOf (S.get 9)] [] [] fun ids vs rs => { cars := [.i 33 .i64, .i 10 .i64, .row (atN ids 0) true .int, .row (atN ids 1) true .int], inv := fun ((i, left, sh, od, _) : Int × Int × List Int × List Int × Unit) => ISp a ws i left sh od, mu := fun ((i, left, sh, od, _) : Int × Int × List Int × List Int × Unit) => ws.length - i.toNat }),
    (16, fun S => .inv [pOf (S.get 8)] [] [] fun ids vs rs => { cars := [.i 64 .i64, .row (atN ids 0) true .int], inv := fun ((j, sh, _) : Int × List Int × Unit) => IUp a ws j sh, mu := fun ((j, sh, _) : Int × List Int × Unit) => (leftM a ws).toNat - j.toNat })]
  | _, _ => []
set_option maxHeartbeats 20000000 in
theorem ok_money_Split : GOk Try.prog 105 (lift k_money_Split sp_money_Split) := by
  refine pf_ok (T := T_money_Split) (Γ := (139, lift k_money_right sp_money_right) :: (140, lift k_money_Sum sp_money_Sum) :: (141, lift k_slices_SortStableFunc_int_int sp_slices_SortStableFunc_int_int) :: []) tOk_money_Split (gOks_cons ok_money_right (gOks_cons ok_money_Sum (gOks_cons ok_slices_SortStableFunc_int_int (gOks_nil _)))) mixed Try.func105 (c := body Try.f105) (by kernel_rfl) (by kernel_rfl) k_money_Split sp_money_Split (by kernel_rfl) (by kernel_rfl) a_money_Split ?_
  intro args hp s u hfit h
  unfold sp_money_Split at h
  split at h
  · rename_i a o_ws ws
    obtain ⟨hvc, rfl, rfl⟩ := h.vc
    clear h hfit
    change List Int at ws
    conv => whnf
    repeat' (first
      | (refine And.intro ?_ ?_ <;> try conv => whnf)
      | (intro hh; first | (cases hh; done) | conv => whnf))
    all_goals try first | rfl | kernel_rfl
    all_goals try simp only [decide_eq_true_eq, decide_eq_false_iff_not] at *
    all_goals try simp only [Key_eta, Share_eta, Journey_eta, Batch_eta, FieldT_eta, OpB_eta, Product_eta, Item_eta, Delta_eta, Elem_eta, Rule_eta, Do10_eta, Ask_eta, Key_beq, Share_beq, Journey_beq, FieldT_beq, Product_beq, Item_beq, Do10_beq, Ask_beq, toNat0, toNat1, toNat2, toNat3, toNat4, toNat5, toNat6, toNat7, toNat8, toNat9, toNat10, toNat11, toNat12, toNat13, toNat14, toNat15, toNat16, toNat17, toNat18, toNat19, iA, iOf, atS, rwA, castK, zK, true_and, and_true, decide_eq_true_eq, decide_eq_false_iff_not, beq_iff_eq, bne_iff_ne, beq_eq_false_iff_ne, bne_eq_false_iff_eq, Bool.not_eq_true', Bool.not_eq_false', Bool.not_eq_true, Bool.not_eq_false, Nat.succ_eq_add_one, Int.not_lt, Int.not_le, gt_iff_lt, ge_iff_le, show bytesS T_money_Split 41 = 8 from rfl] at *
    all_goals obtain ⟨hL, hR⟩ := hvc
    all_goals try (
      have hG := goodM ‹rightM a ws = true›
      have hl := hG.len
      have hall := hG.all0
      have hsum := hG.sumV
      simp only [hsum] at *)
    all_goals try (
      have q1 := ‹ISp _ _ _ _ _ _›
      have q2 := ‹(ws.length : Int) ≤ _›
      obtain ⟨rfl, rfl, rfl⟩ := isp_end q1 q2)
    all_goals try (
      have q1 := ‹ISp _ _ _ _ _ _›
      have q2 := ‹_ < (ws.length : Int)›
      obtain ⟨f1, f2, f3, f4, f5, f6, f7⟩ := isp_more hG q1 q2
      simp only [f4, f5, List.length_set] at *)
    all_goals try obtain ⟨l1, l2⟩ := hG.left_in
    all_goals try (
      have q1 := ‹IUp _ _ _ _›
      have q2 := ‹_ < (((leftM a ws).toNat - 0 : Nat) : Int)›
      obtain ⟨g1, g2, t, g3, g4, g5, g6, g7⟩ := iup_more hG q1 (by omega)
      (try simp only [show keyM a ws (allM ws) = kM a ws from rfl] at *)
      simp only [show ((0 : Nat) : Int) = 0 from rfl, Int.zero_add, g4, Int.toNat_natCast, sortD_length, idxs_length] at *)
    all_goals try (refine Vc.mk ?_; (try rw [sortD_length, idxs_length]); omega)
    · exact Res.mk (by simp [splitL, splitE, *])
    · exact Vc.mk ⟨hL, hR⟩
    · exact ⟨by rw [Int.toNat_natCast]; exact isp_zero⟩
    · exact ⟨f6, f7⟩
    · exact Vc.mk ⟨hG.ok, idx_idxs _, by rw [idxs_length]; exact hl⟩
    · exact ⟨iup_zero⟩
    · exact ⟨g6, by omega⟩
    · have e := iup_end hG ‹IUp _ _ _ _› (by omega)
      exact Res.mk (by simp [splitL, splitE, *])
  · exact h.fail.elim

end Go.Proofs.Ythbmllekbbfobaa.Sx
