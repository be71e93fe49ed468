import Derived.Test.YtncdakkigkmfjaaProg
import Derived.Test.YtncdakkigkmfjaaSxU
import Derived.IntWalk
import Derived.Test.YtncdakkigkmfjaaF4s6
/-! fare, its laws -/
namespace Go.Proofs.Ytncdakkigkmfjaa.Sx
open Go
set_option linter.unusedVariables false
set_option linter.unusedSimpArgs false
set_option maxRecDepth 100000

def T_fareboxlaw13_FareJourneys : TT := [(3, ⟨.int .i64, 1, 8, [.int .i64 0], some .int⟩),
  (4, ⟨.bool, 1, 1, [.bool false], some .bool⟩),
  (5, ⟨.int .u8, 1, 1, [.int .u8 0], some .u8⟩),
  (9, ⟨.str, 1, 16, [.string .empty], some .str⟩),
  (27, ⟨.int .i64, 1, 8, [.int .i64 0], none⟩),
  (40, ⟨.int .i64, 1, 8, [.int .i64 0], none⟩),
  (54, ⟨.slice 73, 1, 24, [.slice none 0 0], none⟩),
  (57, ⟨.slice 5, 1, 24, [.slice none 0 0], none⟩),
  (73, ⟨.strct [(0, 3), (1, 3), (2, 3), (3, 3), (4, 3), (5, 40), (6, 3), (7, 3), (8, 3), (9, 3)], 10, 80, [.int .i64 0, .int .i64 0, .int .i64 0, .int .i64 0, .int .i64 0, .int .i64 0, .int .i64 0, .int .i64 0, .int .i64 0, .int .i64 0], some .journey⟩)]
theorem tOk_fareboxlaw13_FareJourneys : TOk Try.prog T_fareboxlaw13_FareJourneys := tOk_of (by kernel_rfl)
def sp_fareboxlaw13_FareJourneys : Spec := fun args hp => match args, hp with
  | [.slF 0, .slF 1], [(0, .row o_js .journey js), (1, .row o_b .u8 b)] => .vc (js.length ≤ 1048576 ∧ b.length ≤ 1048576 ∧ isB b) (bv true) []
  | _, _ => .fail "fareboxlaw13_FareJourneys"
abbrev k_fareboxlaw13_FareJourneys : List (Option RK) := [some .journey, some .u8]
def a_fareboxlaw13_FareJourneys : List SV → List (Nat × VB) → Anns := fun args hp => match args, hp with
  | [.slF 0, .slF 1], [(0, .row o_js .journey js), (1, .row o_b .u8 b)] => [(7, fun S => .inv [] [] fun ids vs => { cars := [.i 8 .i64, .b 5, .r 6 true .u8, .i 7 .i64], inv := fun ((i, gd, want, sum, _) : Int × Bool × List Int × Int × Unit) => IFJ js i gd want sum, mu := fun ((i, gd, want, sum, _) : Int × Bool × List Int × Int × Unit) => js.length - i.toNat })]
  | _, _ => []
set_option maxHeartbeats 20000000 in
theorem ok_fareboxlaw13_FareJourneys : GOk Try.prog 12 (lift k_fareboxlaw13_FareJourneys sp_fareboxlaw13_FareJourneys) := by
  refine pf_ok (T := T_fareboxlaw13_FareJourneys) (Γ := (29, lift k_fareboxlaw13_awake sp_fareboxlaw13_awake) :: (50, lift k_fareboxref13_Good sp_fareboxref13_Good) :: (51, lift k_fareboxref13_Form sp_fareboxref13_Form) :: (52, lift k_fare_Put sp_fare_Put) :: (53, lift k_fare_Total sp_fare_Total) :: (54, lift k_fare_Good sp_fare_Good) :: (39, lift k_fareboxref13_Same sp_fareboxref13_Same) :: (55, lift k_fare_Get sp_fare_Get) :: (56, lift k_fareboxref13_Get sp_fareboxref13_Get) :: []) tOk_fareboxlaw13_FareJourneys (gOks_cons ok_fareboxlaw13_awake (gOks_cons ok_fareboxref13_Good (gOks_cons ok_fareboxref13_Form (gOks_cons ok_fare_Put (gOks_cons ok_fare_Total (gOks_cons ok_fare_Good (gOks_cons ok_fareboxref13_Same (gOks_cons ok_fare_Get (gOks_cons ok_fareboxref13_Get (gOks_nil _)))))))))) mixed Try.func12 (c := body Try.f12) (by kernel_rfl) (by kernel_rfl) k_fareboxlaw13_FareJourneys sp_fareboxlaw13_FareJourneys (by kernel_rfl) (by kernel_rfl) a_fareboxlaw13_FareJourneys ?_
  intro args hp s u hfit h
  unfold sp_fareboxlaw13_FareJourneys at h
  split at h
  · rename_i o_js js o_b b
    obtain ⟨hvc, rfl, rfl⟩ := h.vc
    clear h hfit
    change List Journey at js
    change List Int at b
    conv => whnf
    repeat' (first
      | (refine And.intro ?_ ?_ <;> try conv => whnf)
      | (intro hh; first | (cases hh; done) | conv => whnf))
    all_goals try first | rfl | kernel_rfl
    all_goals try simp only [decide_eq_true_eq, decide_eq_false_iff_not] at *
    all_goals try simp only [Key_eta, Share_eta, Journey_eta, Batch_eta, FieldT_eta, OpB_eta, Product_eta, Key_beq, Share_beq, Journey_beq, FieldT_beq, Product_beq, toNat0, toNat1, toNat2, toNat3, toNat4, toNat5, toNat6, toNat7, toNat8, toNat9, toNat10, toNat11, toNat12, toNat13, toNat14, toNat15, toNat16, toNat17, toNat18, toNat19, iA, iOf, atS, zK, true_and, and_true, decide_eq_true_eq, decide_eq_false_iff_not, beq_iff_eq, bne_iff_ne, beq_eq_false_iff_ne, bne_eq_false_iff_eq, Bool.not_eq_true', Bool.not_eq_false', Bool.not_eq_true, Bool.not_eq_false, Nat.succ_eq_add_one, Int.not_lt, Int.not_le, gt_iff_lt, ge_iff_le, show bytesS T_fareboxlaw13_FareJourneys 54 = 80 from rfl, show bytesS T_fareboxlaw13_FareJourneys 57 = 1 from rfl] at *
    all_goals obtain ⟨hL, hLb, hB⟩ := hvc
    all_goals try (
      obtain ⟨j, hj, rfl, rfl, hw, hl⟩ := ‹IFJ _ _ _ _ _›)
    all_goals (try simp only [List.nil_append, Int.toNat_natCast] at *)
    all_goals try (exact Res.mk trivial)
    all_goals try (refine Vc.mk ?_; omega)
    all_goals have hp1 := putJ_length js
    all_goals have hp2 := getJ_length b
    all_goals have hp3 := getJ_length (putJ js)
    all_goals have hp4 := putJ_isB js
    all_goals try (exact Vc.mk ‹_›)
    all_goals try (exact Vc.mk ⟨by omega, by omega⟩)
    all_goals try (refine Vc.mk ?_; omega)
    all_goals try (exact Vc.mk ⟨hB, by omega⟩)
    all_goals try (exact Vc.mk ⟨hp4, by omega⟩)
    · exact ⟨⟨0, Nat.zero_le _, rfl, rfl, fun _ => ⟨rfl, rfl⟩, by simp⟩⟩
    · exact Vc.mk (by rw [formJ_length]; omega)
    · exact ⟨ifj_good (by omega) hL ‹good (js.take j) = true› ‹goodJ _ = true› hw hl, by rw [wrap64] <;> omega⟩
    · have hx := ‹goodJ _ = false›
      rw [hx]
      exact ⟨ifj_bad (by omega) hL (.inr hx) hl, by rw [wrap64] <;> omega⟩
    · exact ⟨ifj_bad (by omega) hL (.inl ‹good (js.take j) = false›) hl, by rw [wrap64] <;> omega⟩
    all_goals (
      obtain rfl : j = js.length
      · omega
      rw [List.take_length] at *)
    all_goals try (refine Vc.mk ?_; simp only [List.length_nil]; omega)
    all_goals have g1 := form_getJ hB
    all_goals have g2 : putJ (getJ b) = form (getJ b) := by unfold putJ; rw [if_pos g1.1]
    all_goals have g3 : putJE (getJ b) = 0 := by unfold putJE; rw [if_pos g1.1]
    all_goals refine Res.mk ?_
    all_goals (
      cases hg : good js
      · first
        | (exfalso; simp_all [putJE, putJ, totE, totV]; done)
        | (simp_all [putJE, putJ, totE, totV]; done)
        | (trace_state; sorry)
      · obtain ⟨hw1, hw2⟩ := hw hg
        obtain ⟨k1, k2⟩ := getJ_form hg
        first
        | (exfalso; simp_all [putJE, putJ, totE, totV]; done)
        | (simp_all [putJE, putJ, totE, totV]; done)
        | (trace_state; sorry))
  · exact h.fail.elim

end Go.Proofs.Ytncdakkigkmfjaa.Sx
