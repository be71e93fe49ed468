import Derived.Test.YthbmllekbbfobaaProg
import Derived.Test.YthbmllekbbfobaaSxU
import Derived.IntWalk
import Derived.Test.YthbmllekbbfobaaF3r
/-! fareboxref13 -/
namespace Go.Proofs.Ythbmllekbbfobaa.Sx
open Go
set_option linter.unusedVariables false
set_option linter.unusedSimpArgs false
set_option maxRecDepth 100000

def T_fareboxref13_Numbers : TT := [(3, ⟨.int .i64, 1, 8, [.int .i64 0], some .int⟩),
  (41, ⟨.slice 3, 1, 24, [.slice none 0 0], none⟩),
  (56, ⟨.int .i64, 1, 8, [.int .i64 0], some .int⟩),
  (90, ⟨.strct [(0, 3), (1, 3), (2, 3), (3, 3), (4, 3), (5, 56), (6, 3), (7, 3), (8, 3), (9, 3)], 10, 80, [.int .i64 0, .int .i64 0, .int .i64 0, .int .i64 0, .int .i64 0, .int .i64 0, .int .i64 0, .int .i64 0, .int .i64 0, .int .i64 0], some .journey⟩)]
theorem tOk_fareboxref13_Numbers : TOk Try.prog T_fareboxref13_Numbers := tOk_of (by kernel_rfl)
def sp_fareboxref13_Numbers : Spec := fun args hp => match args, hp with
  | [.agg j_cs], [] => (match decS .journey j_cs with
    | some j => .ok (.tup [.slF 2000, .slF 2001]) [(2000, some (.row true .int (numbersJ j))), (2001, some (.row true .int sizesL))]
    | none => .fail "struct")
  | _, _ => .fail "fareboxref13_Numbers"
abbrev k_fareboxref13_Numbers : List (Option RK) := [none]
def a_fareboxref13_Numbers : List SV → List (Nat × VB) → Anns := fun _ _ => []
set_option maxHeartbeats 20000000 in
theorem ok_fareboxref13_Numbers : GOk Try.prog 143 (lift k_fareboxref13_Numbers sp_fareboxref13_Numbers) := by
  refine pf_ok (T := T_fareboxref13_Numbers) (Γ := []) tOk_fareboxref13_Numbers (gOks_nil _) mixed Try.func143 (c := body Try.f143) (by kernel_rfl) (by kernel_rfl) k_fareboxref13_Numbers sp_fareboxref13_Numbers (by kernel_rfl) (by kernel_rfl) a_fareboxref13_Numbers ?_
  intro args hp s u hfit h
  unfold sp_fareboxref13_Numbers at h
  split at h
  · rename_i j_cs
    split at h
    case h_2 => exact h.fail.elim
    rename_i j h_j
    obtain rfl := decS_ok (k := .journey) rfl h_j
    clear h_j
    change Journey at j
    obtain ⟨rfl, rfl⟩ := h.ok
    clear h hfit
    conv => whnf
    repeat' (first
      | (refine And.intro ?_ ?_ <;> try conv => whnf)
      | (intro hh; first | (cases hh; done) | conv => whnf))
    all_goals try first | rfl | kernel_rfl
    all_goals try simp only [decide_eq_true_eq, decide_eq_false_iff_not] at *
    all_goals try simp only [Key_eta, Share_eta, Journey_eta, Batch_eta, FieldT_eta, OpB_eta, Product_eta, Item_eta, Delta_eta, Elem_eta, Rule_eta, Do10_eta, Ask_eta, Key_beq, Share_beq, Journey_beq, FieldT_beq, Product_beq, Item_beq, Do10_beq, Ask_beq, toNat0, toNat1, toNat2, toNat3, toNat4, toNat5, toNat6, toNat7, toNat8, toNat9, toNat10, toNat11, toNat12, toNat13, toNat14, toNat15, toNat16, toNat17, toNat18, toNat19, iA, iOf, atS, rwA, castK, zK, true_and, and_true, decide_eq_true_eq, decide_eq_false_iff_not, beq_iff_eq, bne_iff_ne, beq_eq_false_iff_ne, bne_eq_false_iff_eq, Bool.not_eq_true', Bool.not_eq_false', Bool.not_eq_true, Bool.not_eq_false, Nat.succ_eq_add_one, Int.not_lt, Int.not_le, gt_iff_lt, ge_iff_le, show bytesS T_fareboxref13_Numbers 41 = 8 from rfl] at *
    exact Res.mk ⟨rfl, rfl⟩
  · exact h.fail.elim

def T_fareboxref13_Good : TT := [(3, ⟨.int .i64, 1, 8, [.int .i64 0], some .int⟩),
  (4, ⟨.bool, 1, 1, [.bool false], some .bool⟩),
  (41, ⟨.slice 3, 1, 24, [.slice none 0 0], none⟩),
  (56, ⟨.int .i64, 1, 8, [.int .i64 0], some .int⟩),
  (90, ⟨.strct [(0, 3), (1, 3), (2, 3), (3, 3), (4, 3), (5, 56), (6, 3), (7, 3), (8, 3), (9, 3)], 10, 80, [.int .i64 0, .int .i64 0, .int .i64 0, .int .i64 0, .int .i64 0, .int .i64 0, .int .i64 0, .int .i64 0, .int .i64 0, .int .i64 0], some .journey⟩)]
theorem tOk_fareboxref13_Good : TOk Try.prog T_fareboxref13_Good := tOk_of (by kernel_rfl)
def sp_fareboxref13_Good : Spec := fun args hp => match args, hp with
  | [.agg j_cs], [] => (match decS .journey j_cs with
    | some j => .ok (bv (goodJ j)) []
    | none => .fail "struct")
  | _, _ => .fail "fareboxref13_Good"
abbrev k_fareboxref13_Good : List (Option RK) := [none]
def a_fareboxref13_Good : List SV → List (Nat × VB) → Anns := fun args hp => match args, hp with
  | [.agg j_cs], [] => (match decS .journey j_cs with
    | some j => [(5, fun S => .inv [] [] [] fun ids vs rs => { cars := [.i 7 .i64], inv := fun ((i, _) : Int × Unit) => IRG j i, mu := fun ((i, _) : Int × Unit) => 10 - i.toNat })]
    | none => [])
  | _, _ => []
set_option maxHeartbeats 20000000 in
theorem ok_fareboxref13_Good : GOk Try.prog 106 (lift k_fareboxref13_Good sp_fareboxref13_Good) := by
  refine pf_ok (T := T_fareboxref13_Good) (Γ := (143, lift k_fareboxref13_Numbers sp_fareboxref13_Numbers) :: []) tOk_fareboxref13_Good (gOks_cons ok_fareboxref13_Numbers (gOks_nil _)) mixed Try.func106 (c := body Try.f106) (by kernel_rfl) (by kernel_rfl) k_fareboxref13_Good sp_fareboxref13_Good (by kernel_rfl) (by kernel_rfl) a_fareboxref13_Good ?_
  intro args hp s u hfit h
  unfold sp_fareboxref13_Good at h
  split at h
  · rename_i j_cs
    split at h
    case h_2 => exact h.fail.elim
    rename_i j h_j
    obtain rfl := decS_ok (k := .journey) rfl h_j
    clear h_j
    change Journey at j
    obtain ⟨rfl, rfl⟩ := h.ok
    clear h hfit
    conv => whnf
    repeat' (first
      | (refine And.intro ?_ ?_ <;> try conv => whnf)
      | (intro hh; first | (cases hh; done) | conv => whnf))
    all_goals try first | rfl | kernel_rfl
    all_goals try simp only [decide_eq_true_eq, decide_eq_false_iff_not] at *
    all_goals try simp only [Key_eta, Share_eta, Journey_eta, Batch_eta, FieldT_eta, OpB_eta, Product_eta, Item_eta, Delta_eta, Elem_eta, Rule_eta, Do10_eta, Ask_eta, Key_beq, Share_beq, Journey_beq, FieldT_beq, Product_beq, Item_beq, Do10_beq, Ask_beq, toNat0, toNat1, toNat2, toNat3, toNat4, toNat5, toNat6, toNat7, toNat8, toNat9, toNat10, toNat11, toNat12, toNat13, toNat14, toNat15, toNat16, toNat17, toNat18, toNat19, iA, iOf, atS, rwA, castK, zK, true_and, and_true, decide_eq_true_eq, decide_eq_false_iff_not, beq_iff_eq, bne_iff_ne, beq_eq_false_iff_ne, bne_eq_false_iff_eq, Bool.not_eq_true', Bool.not_eq_false', Bool.not_eq_true, Bool.not_eq_false, Nat.succ_eq_add_one, Int.not_lt, Int.not_le, gt_iff_lt, ge_iff_le, show bytesS T_fareboxref13_Good 41 = 8 from rfl] at *
    all_goals have hten : (numbersJ j).length = 10 := rfl
    all_goals try (
      obtain ⟨m, hm, rfl, hg⟩ := ‹IRG _ _›
      (try simp only [Int.toNat_natCast] at *)
      skip)
    all_goals try (refine Vc.mk ?_; first | omega | (simp only [List.length_cons, List.length_nil]; omega))
    · exact ⟨⟨0, by omega, rfl, fun q hq => by omega⟩⟩
    · exact Res.mk (not_goodJ (m := m) (by omega) (.inl ‹_›)).symm
    · exact Res.mk (not_goodJ (m := m) (by omega) (.inr ‹_›)).symm
    · refine ⟨⟨m + 1, by omega, by rw [wrap64] <;> omega, fun q hq => ?_⟩, by rw [wrap64] <;> omega⟩
      by_cases e : q = m
      · subst e; exact ⟨‹_›, ‹_›⟩
      · exact hg q (by omega)
    · exact Res.mk ((goodJ_okAt j).2 fun q hq => hg q (by omega)).symm
  · exact h.fail.elim

end Go.Proofs.Ythbmllekbbfobaa.Sx
