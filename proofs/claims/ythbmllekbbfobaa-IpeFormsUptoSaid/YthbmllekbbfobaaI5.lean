import Derived.Test.YthbmllekbbfobaaProg
import Derived.Test.YthbmllekbbfobaaSxU
import Derived.IntWalk
import Derived.Test.YthbmllekbbfobaaI5c0
/-! ipe, Form -/
namespace Go.Proofs.Ythbmllekbbfobaa.Sx
open Go
set_option linter.unusedVariables false
set_option linter.unusedSimpArgs false
set_option maxRecDepth 100000

def T_ipe_Form : TT := [(3, ⟨.int .i64, 1, 8, [.int .i64 0], some .int⟩),
  (4, ⟨.bool, 1, 1, [.bool false], some .bool⟩),
  (5, ⟨.int .u8, 1, 1, [.int .u8 0], some .u8⟩),
  (25, ⟨.slice 5, 1, 24, [.slice none 0 0], none⟩),
  (27, ⟨.int .i64, 1, 8, [.int .i64 0], some .int⟩),
  (41, ⟨.slice 3, 1, 24, [.slice none 0 0], none⟩),
  (56, ⟨.int .i64, 1, 8, [.int .i64 0], some .int⟩),
  (58, ⟨.strct [(0, 56), (1, 3), (2, 3), (3, 3), (4, 3), (5, 3), (6, 3), (7, 3), (8, 4), (9, 3), (10, 3), (11, 3), (12, 3), (13, 4)], 14, 112, [.int .i64 0, .int .i64 0, .int .i64 0, .int .i64 0, .int .i64 0, .int .i64 0, .int .i64 0, .int .i64 0, .bool false, .int .i64 0, .int .i64 0, .int .i64 0, .int .i64 0, .bool false], some .product⟩),
  (158, ⟨.slice 160, 1, 24, [.slice none 0 0], none⟩),
  (160, ⟨.strct [(0, 3), (1, 25), (2, 158)], 3, 56, [.int .i64 0, .slice none 0 0, .slice none 0 0], some .elem⟩)]
theorem tOk_ipe_Form : TOk Try.prog T_ipe_Form := tOk_of (by kernel_rfl)
def sp_ipe_Form : Spec := fun args hp => match args, hp with
  | [.agg p_cs], [] => (match decS .product p_cs with
    | some p => .ok (.tup [.slF 2000, iv (formE p)]) [(2000, some (.row true .u8 (formL p)))]
    | none => .fail "struct")
  | _, _ => .fail "ipe_Form"
abbrev k_ipe_Form : List (Option RK) := [none]
def a_ipe_Form : List SV → List (Nat × VB) → Anns := fun args hp => match args, hp with
  | [.agg p_cs], [] => (match decS .product p_cs with
    | some p => [(6, fun S => .inv [] [] [] fun ids vs rs => { cars := [.i 18 .i64, .r 6 true .elem], inv := fun ((i, es, _) : Int × List Elem × Unit) => IFm p i es, mu := fun ((i, es, _) : Int × List Elem × Unit) => 14 - i.toNat })]
    | none => [])
  | _, _ => []
set_option maxHeartbeats 20000000 in
theorem ok_ipe_Form : GOk Try.prog 27 (lift k_ipe_Form sp_ipe_Form) := by
  refine pf_ok (T := T_ipe_Form) (Γ := (80, lift k_ipe_numbers sp_ipe_numbers) :: (81, lift k_tlv_Num sp_tlv_Num) :: (82, lift k_tlv_Put sp_tlv_Put) :: []) tOk_ipe_Form (gOks_cons ok_ipe_numbers (gOks_cons ok_tlv_Num (gOks_cons ok_tlv_Put (gOks_nil _)))) mixed Try.func27 (c := body Try.f27) (by kernel_rfl) (by kernel_rfl) k_ipe_Form sp_ipe_Form (by kernel_rfl) (by kernel_rfl) a_ipe_Form ?_
  intro args hp s u hfit h
  unfold sp_ipe_Form at h
  split at h
  · rename_i p_cs
    split at h
    case h_2 => exact h.fail.elim
    rename_i p h_p
    obtain rfl := decS_ok (k := .product) rfl h_p
    clear h_p
    change Product at p
    obtain ⟨rfl, rfl⟩ := h.ok
    clear h hfit
    conv => whnf
    repeat' (first
      | (refine And.intro ?_ ?_ <;> try conv => whnf)
      | (intro hh; first | (cases hh; done) | conv => whnf))
    all_goals try first | rfl | kernel_rfl
    all_goals try simp only [decide_eq_true_eq, decide_eq_false_iff_not] at *
    all_goals try simp only [Key_eta, Share_eta, Journey_eta, Batch_eta, FieldT_eta, OpB_eta, Product_eta, Item_eta, Delta_eta, Elem_eta, Rule_eta, Do10_eta, Key_beq, Share_beq, Journey_beq, FieldT_beq, Product_beq, Item_beq, Do10_beq, toNat0, toNat1, toNat2, toNat3, toNat4, toNat5, toNat6, toNat7, toNat8, toNat9, toNat10, toNat11, toNat12, toNat13, toNat14, toNat15, toNat16, toNat17, toNat18, toNat19, iA, iOf, atS, rwA, castK, zK, true_and, and_true, decide_eq_true_eq, decide_eq_false_iff_not, beq_iff_eq, bne_iff_ne, beq_eq_false_iff_ne, bne_eq_false_iff_eq, Bool.not_eq_true', Bool.not_eq_false', Bool.not_eq_true, Bool.not_eq_false, Nat.succ_eq_add_one, Int.not_lt, Int.not_le, gt_iff_lt, ge_iff_le, show bytesS T_ipe_Form 25 = 1 from rfl, show bytesS T_ipe_Form 41 = 8 from rfl, show bytesS T_ipe_Form 158 = 56 from rfl] at *
    all_goals try (
      have h0 : rightP p = false := ‹_›
      refine Res.mk ?_
      rw [formL, formE, h0]
      exact ⟨rfl, rfl⟩)
    all_goals have hR : rightP p = true := ‹_›
    all_goals have h14 : (numsP p).length = 14 := rfl
    all_goals try (
      have hex := ‹IFm _ _ _›
      obtain ⟨j, hj, rfl, rfl⟩ := hex
      try simp only [Int.toNat_natCast] at *)
    all_goals try (refine Vc.mk ?_; omega)
    all_goals try (
      have hm : (numsP p).getD j 0 ∈ numsP p := mem_getD (by omega)
      have ho := right_okL hR _ hm
      simp only [Int.reducePow] at ho)
    all_goals try (refine Vc.mk ?_; omega)
    · exact ⟨⟨0, by omega, rfl, rfl⟩⟩
    · have hl := esG_length 0 ((numsP p).take j)
      refine Vc.mk ?_
      simp only [List.length_cons, List.length_nil, List.length_take] at *
      omega
    · refine ⟨⟨j + 1, by omega, by rw [wrap64] <;> omega, ?_⟩, by rw [wrap64] <;> omega⟩
      rw [take_getD (d := (0 : Int)) (by omega), esG_snoc, if_neg ‹_›, wrap64 (by omega) (by omega), List.length_take, show min j (numsP p).length = j by omega, Int.zero_add]
    · refine ⟨⟨j + 1, by omega, by rw [wrap64] <;> omega, ?_⟩, by rw [wrap64] <;> omega⟩
      rw [take_getD (d := (0 : Int)) (by omega), esG_snoc, if_pos ‹_›, List.append_nil]
    · exact Vc.mk (outE_w _ (by rw [List.length_take]; omega) (fun n hn => right_okL hR n (List.mem_of_mem_take hn)))
    · obtain rfl : j = 14 := by omega
      have h2 := form_put hR
      rw [List.take_of_length_le (by omega)]
      refine Res.mk ?_
      rw [formL, formE, hR]
      exact ⟨h2.2, h2.1⟩
  · exact h.fail.elim

end Go.Proofs.Ythbmllekbbfobaa.Sx
