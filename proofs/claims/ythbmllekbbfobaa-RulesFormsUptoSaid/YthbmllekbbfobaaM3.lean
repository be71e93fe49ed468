import Derived.Test.YthbmllekbbfobaaProg
import Derived.Test.YthbmllekbbfobaaSxU
import Derived.IntWalk
import Derived.Test.YthbmllekbbfobaaM3r
/-! fareboxref05, Split -/
namespace Go.Proofs.Ythbmllekbbfobaa.Sx
open Go
set_option linter.unusedVariables false
set_option linter.unusedSimpArgs false
set_option maxRecDepth 100000

def T_fareboxref05_Split : TT := [(3, ⟨.int .i64, 1, 8, [.int .i64 0], some .int⟩),
  (4, ⟨.bool, 1, 1, [.bool false], some .bool⟩),
  (41, ⟨.slice 3, 1, 24, [.slice none 0 0], none⟩),
  (239, ⟨.slice 4, 1, 24, [.slice none 0 0], none⟩)]
theorem tOk_fareboxref05_Split : TOk Try.prog T_fareboxref05_Split := tOk_of (by kernel_rfl)
def sp_fareboxref05_Split : Spec := fun args hp => match args, hp with
  | [.val (.int .i64 a), .slF 0], [(0, .row o_ws .int ws)] => .vc (-9223372036854775808 ≤ a ∧ a ≤ 9223372036854775807 ∧ ws.length ≤ 1099511627776) (.tup [.slF 2000, bv (rightM a ws)]) [(2000, some (.row true .int (splitL a ws)))]
  | _, _ => .fail "fareboxref05_Split"
abbrev k_fareboxref05_Split : List (Option RK) := [none, some .int]
def a_fareboxref05_Split : List SV → List (Nat × VB) → Anns := fun args hp => match args, hp with
  | [.val (.int .i64 a), .slF 0], [(0, .row o_ws .int ws)] => [(5, fun S => .inv [] [] [] fun ids vs rs => { cars := [.i 7 .i64, .i 6 .i64], inv := fun ((i, w, _) : Int × Int × Unit) => IR1 ws i w, mu := fun ((i, w, _) : Int × Int × Unit) => ws.length - i.toNat }),
    (16, fun S => .inv [pOf (S.get 8)] [] [] fun ids vs rs => { cars := [.i 11 .i64, .i 10 .i64, .row (atN ids 0) true .int], inv := fun ((i, sum, out, _) : Int × Int × List Int × Unit) => IR2 a ws i sum out, mu := fun ((i, sum, out, _) : Int × Int × List Int × Unit) => ws.length - i.toNat }),
    (20, fun S => .inv [pOf (S.get 8), pOf (S.get 9)] [] [] fun ids vs rs => { cars := [.i 10 .i64, .row (atN ids 0) true .int, .row (atN ids 1) true .bool], inv := fun ((sum, out, more, _) : Int × List Int × List Bool × Unit) => IR3 a ws sum out more, mu := fun ((sum, out, more, _) : Int × List Int × List Bool × Unit) => (a - sum).toNat }),
    (23, fun S => .inv [] [S.get 10] [] fun ids vs rs => { cars := [.i 13 .i64, .i 12 .i64], inv := fun ((i, best, _) : Int × Int × Unit) => IR4 a ws ((iA vs 0)) i best, mu := fun ((i, best, _) : Int × Int × Unit) => ws.length - i.toNat })]
  | _, _ => []
set_option maxHeartbeats 20000000 in
theorem ok_fareboxref05_Split : GOk Try.prog 107 (lift k_fareboxref05_Split sp_fareboxref05_Split) := by
  refine pf_ok (T := T_fareboxref05_Split) (Γ := []) tOk_fareboxref05_Split (gOks_nil _) mixed Try.func107 (c := body Try.f107) (by kernel_rfl) (by kernel_rfl) k_fareboxref05_Split sp_fareboxref05_Split (by kernel_rfl) (by kernel_rfl) a_fareboxref05_Split ?_
  intro args hp s u hfit h
  unfold sp_fareboxref05_Split at h
  split at h
  · rename_i a o_ws ws
    obtain ⟨hvc, rfl, rfl⟩ := h.vc
    clear h hfit
    change List Int at ws
    conv => whnf
    repeat' (first
      | (refine And.intro ?_ ?_ <;> try conv => whnf)
      | (intro hh; first | (cases hh; done) | conv => whnf))
    all_goals try first | rfl | kernel_rfl
    all_goals try simp only [decide_eq_true_eq, decide_eq_false_iff_not] at *
    all_goals try simp only [Key_eta, Share_eta, Journey_eta, Batch_eta, FieldT_eta, OpB_eta, Product_eta, Item_eta, Delta_eta, Elem_eta, Rule_eta, Do10_eta, Ask_eta, Key_beq, Share_beq, Journey_beq, FieldT_beq, Product_beq, Item_beq, Do10_beq, Ask_beq, toNat0, toNat1, toNat2, toNat3, toNat4, toNat5, toNat6, toNat7, toNat8, toNat9, toNat10, toNat11, toNat12, toNat13, toNat14, toNat15, toNat16, toNat17, toNat18, toNat19, iA, iOf, atS, rwA, castK, zK, true_and, and_true, decide_eq_true_eq, decide_eq_false_iff_not, beq_iff_eq, bne_iff_ne, beq_eq_false_iff_ne, bne_eq_false_iff_eq, Bool.not_eq_true', Bool.not_eq_false', Bool.not_eq_true, Bool.not_eq_false, Nat.succ_eq_add_one, Int.not_lt, Int.not_le, gt_iff_lt, ge_iff_le, show bytesS T_fareboxref05_Split 41 = 8 from rfl, show bytesS T_fareboxref05_Split 239 = 1 from rfl] at *
    all_goals obtain ⟨hA, hA', hL⟩ := hvc
    all_goals try (
      have q1 := ‹IR1 _ _ _›
      have e := ir1_more q1 (by omega)
      specialize e (by assumption)
      obtain ⟨f1, f2⟩ := e)
    all_goals try (
      have q1 := ‹IR1 _ _ _›
      have e := ir1_end q1
      specialize e (by assumption)
      obtain ⟨rfl, hW⟩ := e)
    all_goals try (
      have hn := ‹allM ws ≠ 0›
      have hs := sum_nonneg fun x hx => (hW x hx).1
      have hG : GoodM a ws := goodM (rightM_iff.2 ⟨by omega, by omega, by omega, hW, by unfold allM at *; omega⟩)
      obtain ⟨l1, l2⟩ := hG.left_in)
    all_goals try (
      have q2 := ‹IR2 _ _ _ _ _›
      have e := ir2_more hG q2
      specialize e (by assumption)
      obtain ⟨f1, f2, f3, f4, f5, f6⟩ := e
      simp only [f3, f4, List.length_set] at *)
    all_goals try (
      have q2 := ‹IR2 _ _ _ _ _›
      have e := ir2_end q2
      specialize e (by assumption)
      obtain ⟨rfl, rfl⟩ := e)
    all_goals try (
      have q3 := ‹IR3 _ _ _ _ _›
      have q4 := ‹IR4 _ _ _ _ _›
      have e := ir4_more hG q3 q4
      specialize e (by assumption)
      obtain ⟨g1, g2, g3, g4, g5, g6, g7, g8, g9, g10⟩ := e
      simp only [g5] at *
      (try specialize g6 (by assumption))
      (try simp only [g6] at *))
    all_goals try (
      have q3 := ‹IR3 _ _ _ _ _›
      have q4 := ‹IR4 _ _ _ _ _›
      have e := ir4_end hG q3 q4
      specialize e (by assumption) (by assumption)
      obtain ⟨k1, k2, k3, k4, k5, k6⟩ := e)
    all_goals try (refine Vc.mk ?_; omega)
    all_goals try (
      refine Res.mk (split_no fun h => ?_)
      have hG := goodM h
      obtain ⟨h1, h2, h3, h4, h5, h6, h7⟩ := hG
      first
      | omega
      | (have k := ‹ws.getD _ 0 < 0›; exact absurd k (Int.not_lt.2 (h5 _ (mem_getD (by omega))).1))
      | (have k := ‹1000 < ws.getD _ 0›; exact absurd k (Int.not_lt.2 (h5 _ (mem_getD (by omega))).2)))
    · exact ⟨⟨0, Nat.zero_le _, rfl, fun x hx => by simp at hx, rfl⟩⟩
    · exact ⟨(f2 ‹_› ‹_›).1, (f2 ‹_› ‹_›).2⟩
    · exact ⟨⟨0, Nat.zero_le _, rfl, rfl, by rw [Int.toNat_natCast]; exact fillTo_zero.symm⟩⟩
    · exact ⟨f5, f6⟩
    · exact ⟨by rw [Int.toNat_natCast]; exact ir3_zero⟩
    · exact ⟨ir4_zero ‹IR3 _ _ _ _ _›⟩
    iterate 4 (
      first
      | exact ⟨g7 ‹_›, g4⟩
      | exact ⟨g8 ‹_› ‹_›, g4⟩
      | exact ⟨g9 ‹_› ‹_› ‹_›, g4⟩
      | exact ⟨g10 ‹_› ‹_› ‹_›, g4⟩)
    · exact ⟨k5, k6⟩
    · have e := ir3_end hG ‹IR3 _ _ _ _ _› ‹_›
      have hr := rightM_iff.2 ⟨hG.a0, hG.a1, hG.len, hG.w, hG.all0⟩
      exact Res.mk (by simp [splitL, *])
  · exact h.fail.elim

end Go.Proofs.Ythbmllekbbfobaa.Sx
