import Derived.Test.YthbmllekbbfobaaProg
import Derived.Test.YthbmllekbbfobaaSxU
import Derived.IntWalk
import Derived.Test.YthbmllekbbfobaaR2r
/-! rules, the set -/
namespace Go.Proofs.Ythbmllekbbfobaa.Sx
open Go
set_option linter.unusedVariables false
set_option linter.unusedSimpArgs false
set_option maxRecDepth 100000

def T_slices_BinarySearchFunc_api_Rule_api_Rule_api_Rule : TT := [(3, ⟨.int .i64, 1, 8, [.int .i64 0], some .int⟩),
  (4, ⟨.bool, 1, 1, [.bool false], some .bool⟩),
  (41, ⟨.slice 3, 1, 24, [.slice none 0 0], none⟩),
  (88, ⟨.strct [(0, 3), (1, 3), (2, 41)], 3, 40, [.int .i64 0, .int .i64 0, .slice none 0 0], some .rule⟩),
  (95, ⟨.slice 88, 1, 24, [.slice none 0 0], none⟩),
  (180, ⟨.other, 1, 8, [.nilFunc], none⟩),
  (201, ⟨.int .u64, 1, 8, [.int .u64 0], none⟩)]
theorem tOk_slices_BinarySearchFunc_api_Rule_api_Rule_api_Rule : TOk Try.prog T_slices_BinarySearchFunc_api_Rule_api_Rule_api_Rule := tOk_of (by kernel_rfl)
def sp_slices_BinarySearchFunc_api_Rule_api_Rule_api_Rule : Spec := fun args hp => match args, hp with
  | [.slF 0, .agg [.val (.int .i64 t_owner), .val (.int .i64 t_op), .slF 1], .fn (.func 101) [] []], [(0, .row o_xs .rule xs), (1, .row o_t_weights .int t_weights)] => .vc (xs.length ≤ 1048576 ∧ SrtR xs) (.tup [iv (posR xs (⟨t_owner, t_op, t_weights⟩ : Rule)), bv (hasR xs (⟨t_owner, t_op, t_weights⟩ : Rule))]) []
  | _, _ => .fail "slices_BinarySearchFunc_api_Rule_api_Rule_api_Rule"
abbrev k_slices_BinarySearchFunc_api_Rule_api_Rule_api_Rule : List (Option RK) := [some .rule, none, none]
def a_slices_BinarySearchFunc_api_Rule_api_Rule_api_Rule : List SV → List (Nat × VB) → Anns := fun args hp => match args, hp with
  | [.slF 0, .agg [.val (.int .i64 t_owner), .val (.int .i64 t_op), .slF 1], .fn (.func 101) [] []], [(0, .row o_xs .rule xs), (1, .row o_t_weights .int t_weights)] => [(3, fun S => .inv [] [] [] fun ids vs rs => { cars := [.i 9 .i64, .i 10 .i64], inv := fun ((i, j, _) : Int × Int × Unit) => IBs xs (⟨t_owner, t_op, t_weights⟩ : Rule) i j, mu := fun ((i, j, _) : Int × Int × Unit) => (j - i).toNat })]
  | _, _ => []
set_option maxHeartbeats 20000000 in
theorem ok_slices_BinarySearchFunc_api_Rule_api_Rule_api_Rule : GOk Try.prog 100 (lift k_slices_BinarySearchFunc_api_Rule_api_Rule_api_Rule sp_slices_BinarySearchFunc_api_Rule_api_Rule_api_Rule) := by
  refine pf_ok (T := T_slices_BinarySearchFunc_api_Rule_api_Rule_api_Rule) (Γ := (101, lift k_rules_order sp_rules_order) :: []) tOk_slices_BinarySearchFunc_api_Rule_api_Rule_api_Rule (gOks_cons ok_rules_order (gOks_nil _)) mixed Try.func100 (c := body Try.f100) (by kernel_rfl) (by kernel_rfl) k_slices_BinarySearchFunc_api_Rule_api_Rule_api_Rule sp_slices_BinarySearchFunc_api_Rule_api_Rule_api_Rule (by kernel_rfl) (by kernel_rfl) a_slices_BinarySearchFunc_api_Rule_api_Rule_api_Rule ?_
  intro args hp s u hfit h
  unfold sp_slices_BinarySearchFunc_api_Rule_api_Rule_api_Rule at h
  split at h
  · rename_i t_owner t_op o_xs xs o_t_weights t_weights
    obtain ⟨hvc, rfl, rfl⟩ := h.vc
    clear h hfit
    change List Rule at xs
    conv => whnf
    repeat' (first
      | (refine And.intro ?_ ?_ <;> try conv => whnf)
      | (intro hh; first | (cases hh; done) | conv => whnf))
    all_goals try first | rfl | kernel_rfl
    all_goals try simp only [decide_eq_true_eq, decide_eq_false_iff_not] at *
    all_goals try simp only [Key_eta, Share_eta, Journey_eta, Batch_eta, FieldT_eta, OpB_eta, Product_eta, Item_eta, Delta_eta, Elem_eta, Rule_eta, Do10_eta, Ask_eta, Key_beq, Share_beq, Journey_beq, FieldT_beq, Product_beq, Item_beq, Do10_beq, Ask_beq, toNat0, toNat1, toNat2, toNat3, toNat4, toNat5, toNat6, toNat7, toNat8, toNat9, toNat10, toNat11, toNat12, toNat13, toNat14, toNat15, toNat16, toNat17, toNat18, toNat19, iA, iOf, atS, rwA, castK, zK, true_and, and_true, decide_eq_true_eq, decide_eq_false_iff_not, beq_iff_eq, bne_iff_ne, beq_eq_false_iff_ne, bne_eq_false_iff_eq, Bool.not_eq_true', Bool.not_eq_false', Bool.not_eq_true, Bool.not_eq_false, Nat.succ_eq_add_one, Int.not_lt, Int.not_le, gt_iff_lt, ge_iff_le, show bytesS T_slices_BinarySearchFunc_api_Rule_api_Rule_api_Rule 41 = 8 from rfl, show bytesS T_slices_BinarySearchFunc_api_Rule_api_Rule_api_Rule 95 = 40 from rfl] at *
    all_goals obtain ⟨hL, hS⟩ := hvc
    all_goals try (
      have hex := ‹IBs _ _ _ _›
      obtain ⟨p, q, rfl, rfl, hpq, hq, h1, h2⟩ := hex)
    all_goals try (
      have hm := half2 (p := p) (q := q) (by omega)
      simp only [hm] at *
      have w1 : IntKind.i64.wrap ((((p + q) / 2 : Nat) : Int) + 1) = (((p + q) / 2 + 1 : Nat) : Int) := by rw [wrap64 (by omega) (by omega)]; omega
      simp only [w1] at *)
    all_goals try simp only [Int.toNat_natCast] at *
    · exact ⟨⟨0, xs.length, rfl, rfl, Nat.zero_le _, Nat.le_refl _, fun c hc => by omega, fun c h1 h2 => by omega⟩⟩
    · exact Vc.mk (by decide)
    · exact Vc.mk (by omega)
    · exact Vc.mk (by omega)
    · refine ⟨⟨(p + q) / 2 + 1, q, rfl, rfl, by omega, hq, fun c hc => ?_, h2⟩, by omega⟩
      rcases Nat.eq_or_lt_of_le (show c ≤ (p + q) / 2 by omega) with e | e
      · subst e; assumption
      · exact ordR_tr (srt_at hS e (by omega)) (by omega)
    · refine ⟨⟨p, (p + q) / 2, rfl, rfl, by omega, by omega, h1, fun c hc hl => ?_⟩, by omega⟩
      rcases Nat.eq_or_lt_of_le hc with e | e
      · subst e; omega
      · intro hn
        have := ordR_tr (srt_at hS e hl) (by omega : ordR (xs.getD c ⟨0, 0, []⟩) ⟨t_owner, t_op, t_weights⟩ ≤ 0)
        omega
    · exact Vc.mk (by omega)
    · exact Vc.mk (by omega)
    · obtain rfl : p = q := by omega
      refine Res.mk ⟨?_, ?_⟩
      · rw [has_at hS (p := p) (by omega) h1 (h2 p (Nat.le_refl _) (by omega)), Bool.eq_iff_iff]; simp
      · rw [pos_at hq h1 h2]
    · obtain rfl : p = q := by omega
      refine Res.mk ⟨?_, ?_⟩
      · rw [has_no (p := p) (by omega) (fun c hc _ => h1 c hc)]
      · rw [pos_at hq h1 h2]
  · exact h.fail.elim

def T_rules_Set_For : TT := [(3, ⟨.int .i64, 1, 8, [.int .i64 0], some .int⟩),
  (4, ⟨.bool, 1, 1, [.bool false], some .bool⟩),
  (41, ⟨.slice 3, 1, 24, [.slice none 0 0], none⟩),
  (88, ⟨.strct [(0, 3), (1, 3), (2, 41)], 3, 40, [.int .i64 0, .int .i64 0, .slice none 0 0], some .rule⟩),
  (91, ⟨.ptr, 1, 8, [.pointer none], none⟩),
  (95, ⟨.slice 88, 1, 24, [.slice none 0 0], none⟩),
  (177, ⟨.strct [(0, 3), (1, 95)], 2, 32, [.int .i64 0, .slice none 0 0], none⟩),
  (180, ⟨.other, 1, 8, [.nilFunc], none⟩)]
theorem tOk_rules_Set_For : TOk Try.prog T_rules_Set_For := tOk_of (by kernel_rfl)
def sp_rules_Set_For : Spec := fun args hp => match args, hp with
  | [.ptr 0 0, .val (.int .i64 owner), .val (.int .i64 op)], [(0, .cells [.val (.int .i64 s_ops), .slF 1]), (1, .row true .rule s_rules)] => .vc (s_rules.length ≤ 1048576 ∧ OkSet s_ops s_rules) (.tup [.slF 2000, bv (hasR s_rules ⟨owner, op, []⟩)]) [(2000, some (.row true .int (wgtR s_rules owner op)))]
  | _, _ => .fail "rules_Set_For"
abbrev k_rules_Set_For : List (Option RK) := [none, none, none]
def a_rules_Set_For : List SV → List (Nat × VB) → Anns := fun _ _ => []
set_option maxHeartbeats 20000000 in
theorem ok_rules_Set_For : GOk Try.prog 48 (lift k_rules_Set_For sp_rules_Set_For) := by
  refine pf_ok (T := T_rules_Set_For) (Γ := (100, lift k_slices_BinarySearchFunc_api_Rule_api_Rule_api_Rule sp_slices_BinarySearchFunc_api_Rule_api_Rule_api_Rule) :: (108, lift k_slices_Clone_int_int sp_slices_Clone_int_int) :: []) tOk_rules_Set_For (gOks_cons ok_slices_BinarySearchFunc_api_Rule_api_Rule_api_Rule (gOks_cons ok_slices_Clone_int_int (gOks_nil _))) mixed Try.func48 (c := body Try.f48) (by kernel_rfl) (by kernel_rfl) k_rules_Set_For sp_rules_Set_For (by kernel_rfl) (by kernel_rfl) a_rules_Set_For ?_
  intro args hp s u hfit h
  unfold sp_rules_Set_For at h
  split at h
  · rename_i owner op s_ops s_rules
    obtain ⟨hvc, rfl, rfl⟩ := h.vc
    clear h hfit
    conv => whnf
    repeat' (first
      | (refine And.intro ?_ ?_ <;> try conv => whnf)
      | (intro hh; first | (cases hh; done) | conv => whnf))
    all_goals try first | rfl | kernel_rfl
    all_goals try simp only [decide_eq_true_eq, decide_eq_false_iff_not] at *
    all_goals try simp only [Key_eta, Share_eta, Journey_eta, Batch_eta, FieldT_eta, OpB_eta, Product_eta, Item_eta, Delta_eta, Elem_eta, Rule_eta, Do10_eta, Ask_eta, Key_beq, Share_beq, Journey_beq, FieldT_beq, Product_beq, Item_beq, Do10_beq, Ask_beq, toNat0, toNat1, toNat2, toNat3, toNat4, toNat5, toNat6, toNat7, toNat8, toNat9, toNat10, toNat11, toNat12, toNat13, toNat14, toNat15, toNat16, toNat17, toNat18, toNat19, iA, iOf, atS, rwA, castK, zK, true_and, and_true, decide_eq_true_eq, decide_eq_false_iff_not, beq_iff_eq, bne_iff_ne, beq_eq_false_iff_ne, bne_eq_false_iff_eq, Bool.not_eq_true', Bool.not_eq_false', Bool.not_eq_true, Bool.not_eq_false, Nat.succ_eq_add_one, Int.not_lt, Int.not_le, gt_iff_lt, ge_iff_le, show bytesS T_rules_Set_For 41 = 8 from rfl, show bytesS T_rules_Set_For 95 = 40 from rfl] at *
    all_goals obtain ⟨hL, hO⟩ := hvc
    all_goals try simp only [Int.toNat_natCast] at *
    all_goals try (
      have hp := has_pos hO.srt ‹hasR s_rules ⟨owner, op, []⟩ = true›)
    · exact Vc.mk ⟨hL, hO.srt⟩
    · refine Res.mk ⟨?_, ?_⟩
      · rw [wgtR, if_neg (by simp_all)]
      · simp_all
    · exact Vc.mk (by omega)
    · exact Vc.mk (by omega)
    · have h := (wgt_right hO ‹hasR s_rules ⟨owner, op, []⟩ = true›).2
      rw [wgtR, if_pos ‹_›] at h
      exact Vc.mk (by omega)
    · refine Res.mk ⟨?_, ?_⟩
      · rw [wgtR, if_pos ‹_›]
      · exact (‹hasR s_rules ⟨owner, op, []⟩ = true›).symm
  · exact h.fail.elim

def T_rules_Set_Share : TT := [(3, ⟨.int .i64, 1, 8, [.int .i64 0], some .int⟩),
  (4, ⟨.bool, 1, 1, [.bool false], some .bool⟩),
  (27, ⟨.int .i64, 1, 8, [.int .i64 0], some .int⟩),
  (41, ⟨.slice 3, 1, 24, [.slice none 0 0], none⟩),
  (56, ⟨.int .i64, 1, 8, [.int .i64 0], some .int⟩),
  (88, ⟨.strct [(0, 3), (1, 3), (2, 41)], 3, 40, [.int .i64 0, .int .i64 0, .slice none 0 0], some .rule⟩),
  (90, ⟨.strct [(0, 3), (1, 3), (2, 3), (3, 3), (4, 3), (5, 56), (6, 3), (7, 3), (8, 3), (9, 3)], 10, 80, [.int .i64 0, .int .i64 0, .int .i64 0, .int .i64 0, .int .i64 0, .int .i64 0, .int .i64 0, .int .i64 0, .int .i64 0, .int .i64 0], some .journey⟩),
  (91, ⟨.ptr, 1, 8, [.pointer none], none⟩),
  (95, ⟨.slice 88, 1, 24, [.slice none 0 0], none⟩),
  (97, ⟨.slice 101, 1, 24, [.slice none 0 0], none⟩),
  (101, ⟨.strct [(0, 3), (1, 3)], 2, 16, [.int .i64 0, .int .i64 0], some .share⟩),
  (104, ⟨.slice 90, 1, 24, [.slice none 0 0], none⟩),
  (177, ⟨.strct [(0, 3), (1, 95)], 2, 32, [.int .i64 0, .slice none 0 0], none⟩)]
theorem tOk_rules_Set_Share : TOk Try.prog T_rules_Set_Share := tOk_of (by kernel_rfl)
def sp_rules_Set_Share : Spec := fun args hp => match args, hp with
  | [.ptr 0 0, .agg j_cs], [(0, .cells [.val (.int .i64 s_ops), .slF 1]), (1, .row true .rule s_rules)] => (match decS .journey j_cs with
    | some j => .vc (s_rules.length ≤ 1048576 ∧ OkSet s_ops s_rules) (.tup [.slF 2000, iv (shE s_ops s_rules j)]) [(2000, some (.row true .share (shL s_ops s_rules j)))]
    | none => .fail "struct")
  | _, _ => .fail "rules_Set_Share"
abbrev k_rules_Set_Share : List (Option RK) := [none, none]
def a_rules_Set_Share : List SV → List (Nat × VB) → Anns := fun args hp => match args, hp with
  | [.ptr 0 0, .agg j_cs], [(0, .cells [.val (.int .i64 s_ops), .slF 1]), (1, .row true .rule s_rules)] => (match decS .journey j_cs with
    | some j => [(11, fun S => .inv [] [] [] fun ids vs rs => { cars := [.i 65 .i64, .r 10 true .share], inv := fun ((i, out, _) : Int × List Share × Unit) => ISh j.owner j.fare (wgtR s_rules j.owner j.op) i out, mu := fun ((i, out, _) : Int × List Share × Unit) => (splitL j.fare (wgtR s_rules j.owner j.op)).length - i.toNat })]
    | none => [])
  | _, _ => []
set_option maxHeartbeats 20000000 in
theorem ok_rules_Set_Share : GOk Try.prog 45 (lift k_rules_Set_Share sp_rules_Set_Share) := by
  refine pf_ok (T := T_rules_Set_Share) (Γ := (104, lift k_fare_Good sp_fare_Good) :: (48, lift k_rules_Set_For sp_rules_Set_For) :: (105, lift k_money_Split sp_money_Split) :: []) tOk_rules_Set_Share (gOks_cons ok_fare_Good (gOks_cons ok_rules_Set_For (gOks_cons ok_money_Split (gOks_nil _)))) mixed Try.func45 (c := body Try.f45) (by kernel_rfl) (by kernel_rfl) k_rules_Set_Share sp_rules_Set_Share (by kernel_rfl) (by kernel_rfl) a_rules_Set_Share ?_
  intro args hp s u hfit h
  unfold sp_rules_Set_Share at h
  split at h
  · rename_i j_cs s_ops s_rules
    split at h
    case h_2 => exact h.fail.elim
    rename_i j h_j
    obtain rfl := decS_ok (k := .journey) rfl h_j
    clear h_j
    change Journey at j
    obtain ⟨hvc, rfl, rfl⟩ := h.vc
    clear h hfit
    conv => whnf
    repeat' (first
      | (refine And.intro ?_ ?_ <;> try conv => whnf)
      | (intro hh; first | (cases hh; done) | conv => whnf))
    all_goals try first | rfl | kernel_rfl
    all_goals try simp only [decide_eq_true_eq, decide_eq_false_iff_not] at *
    all_goals try simp only [Key_eta, Share_eta, Journey_eta, Batch_eta, FieldT_eta, OpB_eta, Product_eta, Item_eta, Delta_eta, Elem_eta, Rule_eta, Do10_eta, Ask_eta, Key_beq, Share_beq, Journey_beq, FieldT_beq, Product_beq, Item_beq, Do10_beq, Ask_beq, toNat0, toNat1, toNat2, toNat3, toNat4, toNat5, toNat6, toNat7, toNat8, toNat9, toNat10, toNat11, toNat12, toNat13, toNat14, toNat15, toNat16, toNat17, toNat18, toNat19, iA, iOf, atS, rwA, castK, zK, true_and, and_true, decide_eq_true_eq, decide_eq_false_iff_not, beq_iff_eq, bne_iff_ne, beq_eq_false_iff_ne, bne_eq_false_iff_eq, Bool.not_eq_true', Bool.not_eq_false', Bool.not_eq_true, Bool.not_eq_false, Nat.succ_eq_add_one, Int.not_lt, Int.not_le, gt_iff_lt, ge_iff_le, show bytesS T_rules_Set_Share 41 = 8 from rfl, show bytesS T_rules_Set_Share 95 = 40 from rfl, show bytesS T_rules_Set_Share 97 = 16 from rfl, show bytesS T_rules_Set_Share 104 = 80 from rfl] at *
    all_goals obtain ⟨hL, hO⟩ := hvc
    all_goals try (
      have hex := ‹ISh _ _ _ _ _›
      obtain ⟨k, hk, rfl, rfl⟩ := hex)
    all_goals try simp only [Int.toNat_natCast] at *
    all_goals try (
      have hr := wgt_right hO ‹hasR s_rules ⟨j.owner, j.op, []⟩ = true›
      obtain ⟨hr, hw⟩ := hr
      have hs := sL_le (a := j.fare) (ws := wgtR s_rules j.owner j.op))
    all_goals try (
      have hg : goodJ j = true := by simpa [good] using ‹good [j] = true›
      have hf := goodJ_fare hg)
    all_goals try (
      have he : splitE j.fare (wgtR s_rules j.owner j.op) = 0 := if_pos (rightM_any hr hf.1 hf.2))
    all_goals try (
      have hy := shE_yes hg (by assumption) (by assumption) ‹hasR s_rules ⟨j.owner, j.op, []⟩ = true›
      obtain ⟨y1, y2⟩ := hy)
    all_goals try (
      have hp := partsL_len (l := (splitL j.fare (wgtR s_rules j.owner j.op)).take k) (i := 0)
      rw [List.length_take] at hp
      have w1 : IntKind.i64.wrap ((k : Int) + 1) = k + 1 := wrap64 (by omega) (by omega)
      simp only [w1] at *)
    all_goals try (refine Vc.mk ?_; first | omega | (simp only [List.length_cons, List.length_nil]; omega) | exact ⟨hL, hO⟩)
    · have h := shE_bad (ops := s_ops) (xs := s_rules) (j := j) (.inl (by simpa [good] using ‹good [j] = false›))
      exact Res.mk ⟨h.2.symm, h.1.symm⟩
    · have h := shE_bad (ops := s_ops) (xs := s_rules) (j := j) (.inr (.inl (by assumption)))
      exact Res.mk ⟨h.2.symm, h.1.symm⟩
    · have h := shE_bad (ops := s_ops) (xs := s_rules) (j := j) (.inr (.inr (by assumption)))
      exact Res.mk ⟨h.2.symm, h.1.symm⟩
    · have h := shE_no (xs := s_rules) hg (by assumption : j.op ≤ s_ops) (by assumption) (by assumption)
      exact Res.mk ⟨h.2.symm, h.1.symm⟩
    · exact Vc.mk ⟨by omega, rightM_64 hr⟩
    · exact absurd he ‹_›
    · refine ⟨⟨0, Nat.zero_le _, rfl, ?_⟩⟩
      rw [wrap64 (by omega) (by omega), List.take_zero, partsL, Int.zero_sub]
    · refine ⟨⟨k + 1, by omega, rfl, ?_⟩, by omega⟩
      rw [take_getD (d := (0 : Int)) (by omega), partsL_snoc, if_pos (by assumption), List.length_take, Nat.min_eq_left (by omega), Nat.zero_add, List.cons_append]
    · refine ⟨⟨k + 1, by omega, rfl, ?_⟩, by omega⟩
      rw [take_getD (d := (0 : Int)) (by omega), partsL_snoc, if_neg (by simpa using ‹_ = (0 : Int)›), List.append_nil]
    · refine Res.mk ⟨?_, y1.symm⟩
      rw [y2, shR, List.take_of_length_le (by omega)]
  · exact h.fail.elim

end Go.Proofs.Ythbmllekbbfobaa.Sx
