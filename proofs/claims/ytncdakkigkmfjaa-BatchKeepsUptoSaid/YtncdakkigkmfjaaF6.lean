import Derived.Test.YtncdakkigkmfjaaProg
import Derived.Test.YtncdakkigkmfjaaSxU
import Derived.IntWalk
import Derived.Test.YtncdakkigkmfjaaF6r
/-! fare, FareBatches' functions -/
namespace Go.Proofs.Ytncdakkigkmfjaa.Sx
open Go
set_option linter.unusedVariables false
set_option linter.unusedSimpArgs false
set_option maxRecDepth 100000

def T_fareboxref13_Batch : TT := [(3, ⟨.int .i64, 1, 8, [.int .i64 0], some .int⟩),
  (4, ⟨.bool, 1, 1, [.bool false], some .bool⟩),
  (40, ⟨.int .i64, 1, 8, [.int .i64 0], none⟩),
  (54, ⟨.slice 73, 1, 24, [.slice none 0 0], none⟩),
  (56, ⟨.strct [(0, 3), (1, 3), (2, 54)], 3, 40, [.int .i64 0, .int .i64 0, .slice none 0 0], some .batch⟩),
  (73, ⟨.strct [(0, 3), (1, 3), (2, 3), (3, 3), (4, 3), (5, 40), (6, 3), (7, 3), (8, 3), (9, 3)], 10, 80, [.int .i64 0, .int .i64 0, .int .i64 0, .int .i64 0, .int .i64 0, .int .i64 0, .int .i64 0, .int .i64 0, .int .i64 0, .int .i64 0], some .journey⟩)]
theorem tOk_fareboxref13_Batch : TOk Try.prog T_fareboxref13_Batch := tOk_of (by kernel_rfl)
def sp_fareboxref13_Batch : Spec := fun args hp => match args, hp with
  | [.agg [.val (.int .i64 x_op), .val (.int .i64 x_n), .slF 0]], [(0, .row o_x_js .journey x_js)] => .vc ((⟨x_op, x_n, x_js⟩ : Batch).js.length ≤ 1099511627776) (bv (rightB (⟨x_op, x_n, x_js⟩ : Batch))) []
  | _, _ => .fail "fareboxref13_Batch"
abbrev k_fareboxref13_Batch : List (Option RK) := [none]
def a_fareboxref13_Batch : List SV → List (Nat × VB) → Anns := fun args hp => match args, hp with
  | [.agg [.val (.int .i64 x_op), .val (.int .i64 x_n), .slF 0]], [(0, .row o_x_js .journey x_js)] => [(4, fun S => .inv [] [] [] fun ids vs rs => { cars := [.i 3 .i64], inv := fun ((i, _) : Int × Unit) => IBa x_op x_js i, mu := fun ((i, _) : Int × Unit) => x_js.length - i.toNat })]
  | _, _ => []
set_option maxHeartbeats 20000000 in
theorem ok_fareboxref13_Batch : GOk Try.prog 36 (lift k_fareboxref13_Batch sp_fareboxref13_Batch) := by
  refine pf_ok (T := T_fareboxref13_Batch) (Γ := (50, lift k_fareboxref13_Good sp_fareboxref13_Good) :: []) tOk_fareboxref13_Batch (gOks_cons ok_fareboxref13_Good (gOks_nil _)) mixed Try.func36 (c := body Try.f36) (by kernel_rfl) (by kernel_rfl) k_fareboxref13_Batch sp_fareboxref13_Batch (by kernel_rfl) (by kernel_rfl) a_fareboxref13_Batch ?_
  intro args hp s u hfit h
  unfold sp_fareboxref13_Batch at h
  split at h
  · rename_i x_op x_n o_x_js x_js
    obtain ⟨hvc, rfl, rfl⟩ := h.vc
    clear h hfit
    conv => whnf
    repeat' (first
      | (refine And.intro ?_ ?_ <;> try conv => whnf)
      | (intro hh; first | (cases hh; done) | conv => whnf))
    all_goals try first | rfl | kernel_rfl
    all_goals try simp only [decide_eq_true_eq, decide_eq_false_iff_not] at *
    all_goals try simp only [Key_eta, Share_eta, Journey_eta, Batch_eta, FieldT_eta, OpB_eta, Product_eta, Key_beq, Share_beq, Journey_beq, FieldT_beq, Product_beq, toNat0, toNat1, toNat2, toNat3, toNat4, toNat5, toNat6, toNat7, toNat8, toNat9, toNat10, toNat11, toNat12, toNat13, toNat14, toNat15, toNat16, toNat17, toNat18, toNat19, iA, iOf, atS, rwA, castK, zK, true_and, and_true, decide_eq_true_eq, decide_eq_false_iff_not, beq_iff_eq, bne_iff_ne, beq_eq_false_iff_ne, bne_eq_false_iff_eq, Bool.not_eq_true', Bool.not_eq_false', Bool.not_eq_true, Bool.not_eq_false, Nat.succ_eq_add_one, Int.not_lt, Int.not_le, gt_iff_lt, ge_iff_le, show bytesS T_fareboxref13_Batch 54 = 80 from rfl] at *
    all_goals try (refine Vc.mk ?_; obtain ⟨j, hj, rfl, _⟩ := ‹IBa _ _ _›; first | omega | (rw [wrap64 (by omega) (by omega)]; omega))
    iterate 6 exact Res.mk (rightB_false (fun h => by simp only at h; omega)).symm
    · exact ⟨⟨0, Nat.zero_le _, rfl, rfl, rfl⟩⟩
    · exact Res.mk (rightB_false (fun h => Bool.noConfusion (h.2.2.2.1.symm.trans ((iba_more ‹IBa _ _ _› hvc ‹_ < _›).1 ‹goodJ _ = false›)))).symm
    · exact Res.mk (rightB_false (fun h => Int.not_le.2 h.2.2.2.2 ((iba_more ‹IBa _ _ _› hvc ‹_ < _›).2.1 ‹_ ≠ _›))).symm
    · exact Res.mk (rightB_false (fun h => Int.not_le.2 h.2.2.2.2 ((iba_more ‹IBa _ _ _› hvc ‹_ < (x_js.length : Int)›).2.2.1 (by assumption) (by assumption)))).symm
    · have h := (iba_more ‹IBa _ _ _› hvc ‹_ < (x_js.length : Int)›).2.2.2 (by assumption) (by assumption) (.inl ⟨by assumption, by assumption⟩)
      exact ⟨h.1, h.2⟩
    · have h := (iba_more ‹IBa _ _ _› hvc ‹_ < (x_js.length : Int)›).2.2.2 (by assumption) (by assumption) (.inr (by assumption))
      exact ⟨h.1, h.2⟩
    · have h := iba_end ‹IBa _ _ _› ‹_ ≤ _›
      refine Res.mk ((rightB_iff _).2 ⟨by simp only; omega, by simp only; omega, by simp only; omega, h.1, h.2⟩).symm
  · exact h.fail.elim

def T_fareboxref13_BatchForm : TT := [(3, ⟨.int .i64, 1, 8, [.int .i64 0], some .int⟩),
  (4, ⟨.bool, 1, 1, [.bool false], some .bool⟩),
  (5, ⟨.int .u8, 1, 1, [.int .u8 0], some .u8⟩),
  (40, ⟨.int .i64, 1, 8, [.int .i64 0], none⟩),
  (54, ⟨.slice 73, 1, 24, [.slice none 0 0], none⟩),
  (56, ⟨.strct [(0, 3), (1, 3), (2, 54)], 3, 40, [.int .i64 0, .int .i64 0, .slice none 0 0], some .batch⟩),
  (57, ⟨.slice 5, 1, 24, [.slice none 0 0], none⟩),
  (73, ⟨.strct [(0, 3), (1, 3), (2, 3), (3, 3), (4, 3), (5, 40), (6, 3), (7, 3), (8, 3), (9, 3)], 10, 80, [.int .i64 0, .int .i64 0, .int .i64 0, .int .i64 0, .int .i64 0, .int .i64 0, .int .i64 0, .int .i64 0, .int .i64 0, .int .i64 0], some .journey⟩)]
theorem tOk_fareboxref13_BatchForm : TOk Try.prog T_fareboxref13_BatchForm := tOk_of (by kernel_rfl)
def sp_fareboxref13_BatchForm : Spec := fun args hp => match args, hp with
  | [.agg [.val (.int .i64 x_op), .val (.int .i64 x_n), .slF 0]], [(0, .row o_x_js .journey x_js)] => .vc (rightB (⟨x_op, x_n, x_js⟩ : Batch) = true) (.slF 2000) [(2000, some (.row true .u8 (putBB (⟨x_op, x_n, x_js⟩ : Batch))))]
  | _, _ => .fail "fareboxref13_BatchForm"
abbrev k_fareboxref13_BatchForm : List (Option RK) := [none]
def a_fareboxref13_BatchForm : List SV → List (Nat × VB) → Anns := fun args hp => match args, hp with
  | [.agg [.val (.int .i64 x_op), .val (.int .i64 x_n), .slF 0]], [(0, .row o_x_js .journey x_js)] => [(4, fun S => .inv [] [] [] fun ids vs rs => { cars := [.i 4 .i64, .r 3 true .u8], inv := fun ((i, out, _) : Int × List Int × Unit) => IBf (be 1 x_op ++ be 4 x_n ++ be 1 x_js.length) x_js i out, mu := fun ((i, out, _) : Int × List Int × Unit) => x_js.length - i.toNat })]
  | _, _ => []
set_option maxHeartbeats 20000000 in
theorem ok_fareboxref13_BatchForm : GOk Try.prog 38 (lift k_fareboxref13_BatchForm sp_fareboxref13_BatchForm) := by
  refine pf_ok (T := T_fareboxref13_BatchForm) (Γ := (69, lift k_fareboxref13_layS4 sp_fareboxref13_layS4) :: (51, lift k_fareboxref13_Form sp_fareboxref13_Form) :: []) tOk_fareboxref13_BatchForm (gOks_cons ok_fareboxref13_layS4 (gOks_cons ok_fareboxref13_Form (gOks_nil _))) mixed Try.func38 (c := body Try.f38) (by kernel_rfl) (by kernel_rfl) k_fareboxref13_BatchForm sp_fareboxref13_BatchForm (by kernel_rfl) (by kernel_rfl) a_fareboxref13_BatchForm ?_
  intro args hp s u hfit h
  unfold sp_fareboxref13_BatchForm at h
  split at h
  · rename_i x_op x_n o_x_js x_js
    obtain ⟨hvc, rfl, rfl⟩ := h.vc
    clear h hfit
    conv => whnf
    repeat' (first
      | (refine And.intro ?_ ?_ <;> try conv => whnf)
      | (intro hh; first | (cases hh; done) | conv => whnf))
    all_goals try first | rfl | kernel_rfl
    all_goals try simp only [decide_eq_true_eq, decide_eq_false_iff_not] at *
    all_goals try simp only [Key_eta, Share_eta, Journey_eta, Batch_eta, FieldT_eta, OpB_eta, Product_eta, Key_beq, Share_beq, Journey_beq, FieldT_beq, Product_beq, toNat0, toNat1, toNat2, toNat3, toNat4, toNat5, toNat6, toNat7, toNat8, toNat9, toNat10, toNat11, toNat12, toNat13, toNat14, toNat15, toNat16, toNat17, toNat18, toNat19, iA, iOf, atS, rwA, castK, zK, true_and, and_true, decide_eq_true_eq, decide_eq_false_iff_not, beq_iff_eq, bne_iff_ne, beq_eq_false_iff_ne, bne_eq_false_iff_eq, Bool.not_eq_true', Bool.not_eq_false', Bool.not_eq_true, Bool.not_eq_false, Nat.succ_eq_add_one, Int.not_lt, Int.not_le, gt_iff_lt, ge_iff_le, show bytesS T_fareboxref13_BatchForm 54 = 80 from rfl, show bytesS T_fareboxref13_BatchForm 57 = 1 from rfl] at *
    all_goals obtain ⟨h1, h2, h3, h4, h5⟩ := (rightB_iff _).1 hvc
    all_goals try simp only at h1 h2 h3 h4 h5
    all_goals try (
      obtain ⟨j, hj, rfl, rfl⟩ := ‹IBf _ _ _ _›
      have hfl := form_length (x_js.take j)
      rw [List.length_take] at hfl)
    all_goals try simp only [Int.toNat_natCast] at *
    all_goals try (refine Vc.mk ?_; omega)
    all_goals try (refine Vc.mk ?_; simp only [List.length_append, be_length, formJ_length, List.length_cons, List.length_nil]; omega)
    · refine ⟨⟨0, Nat.zero_le _, rfl, ?_⟩⟩
      rw [be_one (n := x_op) (by omega) (by omega), be_one (n := (x_js.length : Int)) (by omega) (by omega)]
      simp [form]
    · exact Vc.mk (all_getD (d := (⟨0, 0, 0, 0, 0, 0, 0, 0, 0, 0⟩ : Journey)) (show x_js.all goodJ = true from h4) (show j < x_js.length by omega))
    · refine ⟨⟨j + 1, by omega, by rw [wrap64] <;> omega, ?_⟩, by rw [wrap64] <;> omega⟩
      rw [take_getD (d := (⟨0, 0, 0, 0, 0, 0, 0, 0, 0, 0⟩ : Journey)) (show j < x_js.length by omega), form_snoc, List.append_assoc]
    · obtain rfl : j = x_js.length := by omega
      rw [List.take_length]
      exact Res.mk (by simp [putBB, hvc])
  · exact h.fail.elim

def T_fareboxref13_GetBatch : TT := [(3, ⟨.int .i64, 1, 8, [.int .i64 0], some .int⟩),
  (4, ⟨.bool, 1, 1, [.bool false], some .bool⟩),
  (5, ⟨.int .u8, 1, 1, [.int .u8 0], some .u8⟩),
  (40, ⟨.int .i64, 1, 8, [.int .i64 0], none⟩),
  (54, ⟨.slice 73, 1, 24, [.slice none 0 0], none⟩),
  (56, ⟨.strct [(0, 3), (1, 3), (2, 54)], 3, 40, [.int .i64 0, .int .i64 0, .slice none 0 0], some .batch⟩),
  (57, ⟨.slice 5, 1, 24, [.slice none 0 0], none⟩),
  (73, ⟨.strct [(0, 3), (1, 3), (2, 3), (3, 3), (4, 3), (5, 40), (6, 3), (7, 3), (8, 3), (9, 3)], 10, 80, [.int .i64 0, .int .i64 0, .int .i64 0, .int .i64 0, .int .i64 0, .int .i64 0, .int .i64 0, .int .i64 0, .int .i64 0, .int .i64 0], some .journey⟩)]
theorem tOk_fareboxref13_GetBatch : TOk Try.prog T_fareboxref13_GetBatch := tOk_of (by kernel_rfl)
def sp_fareboxref13_GetBatch : Spec := fun args hp => match args, hp with
  | [.slF 0], [(0, .row o_b .u8 b)] => .vc (isB b ∧ b.length ≤ 1099511627776) (.tup [.agg [iv (getB b).op, iv (getB b).n, .slF 2000], iv (getBE b)]) [(2000, some (.row true .journey (getB b).js))]
  | _, _ => .fail "fareboxref13_GetBatch"
abbrev k_fareboxref13_GetBatch : List (Option RK) := [some .u8]
def a_fareboxref13_GetBatch : List SV → List (Nat × VB) → Anns := fun args hp => match args, hp with
  | [.slF 0], [(0, .row o_b .u8 b)] => [(7, fun S => .inv [pOf (S.get 4)] [cellOf S (pOf (S.get 4)) 0, cellOf S (pOf (S.get 4)) 1] [] fun ids vs rs => { cars := [.i 5 .i64, .blk (atN ids 0) [.fix ((atS vs 0)), .fix ((atS vs 1)), .r true .journey]], inv := fun ((i, (_, _, js, _), _) : Int × (Unit × Unit × List Journey × Unit) × Unit) => IGb b i js, mu := fun ((i, (_, _, js, _), _) : Int × (Unit × Unit × List Journey × Unit) × Unit) => b.length - i.toNat })]
  | _, _ => []
set_option maxHeartbeats 20000000 in
theorem ok_fareboxref13_GetBatch : GOk Try.prog 40 (lift k_fareboxref13_GetBatch sp_fareboxref13_GetBatch) := by
  refine pf_ok (T := T_fareboxref13_GetBatch) (Γ := (70, lift k_fareboxref13_number sp_fareboxref13_number) :: (71, lift k_fareboxref13_One sp_fareboxref13_One) :: (36, lift k_fareboxref13_Batch sp_fareboxref13_Batch) :: []) tOk_fareboxref13_GetBatch (gOks_cons ok_fareboxref13_number (gOks_cons ok_fareboxref13_One (gOks_cons ok_fareboxref13_Batch (gOks_nil _)))) mixed Try.func40 (c := body Try.f40) (by kernel_rfl) (by kernel_rfl) k_fareboxref13_GetBatch sp_fareboxref13_GetBatch (by kernel_rfl) (by kernel_rfl) a_fareboxref13_GetBatch ?_
  intro args hp s u hfit h
  unfold sp_fareboxref13_GetBatch at h
  split at h
  · rename_i o_b b
    obtain ⟨hvc, rfl, rfl⟩ := h.vc
    clear h hfit
    change List Int at b
    conv => whnf
    repeat' (first
      | (refine And.intro ?_ ?_ <;> try conv => whnf)
      | (intro hh; first | (cases hh; done) | conv => whnf))
    all_goals try first | rfl | kernel_rfl
    all_goals try simp only [decide_eq_true_eq, decide_eq_false_iff_not] at *
    all_goals try simp only [Key_eta, Share_eta, Journey_eta, Batch_eta, FieldT_eta, OpB_eta, Product_eta, Key_beq, Share_beq, Journey_beq, FieldT_beq, Product_beq, toNat0, toNat1, toNat2, toNat3, toNat4, toNat5, toNat6, toNat7, toNat8, toNat9, toNat10, toNat11, toNat12, toNat13, toNat14, toNat15, toNat16, toNat17, toNat18, toNat19, iA, iOf, atS, rwA, castK, zK, true_and, and_true, decide_eq_true_eq, decide_eq_false_iff_not, beq_iff_eq, bne_iff_ne, beq_eq_false_iff_ne, bne_eq_false_iff_eq, Bool.not_eq_true', Bool.not_eq_false', Bool.not_eq_true, Bool.not_eq_false, Nat.succ_eq_add_one, Int.not_lt, Int.not_le, gt_iff_lt, ge_iff_le, show bytesS T_fareboxref13_GetBatch 54 = 80 from rfl, show bytesS T_fareboxref13_GetBatch 57 = 1 from rfl] at *
    all_goals obtain ⟨hB, hL⟩ := hvc
    all_goals have h5 := hB.getD 5
    all_goals have h0 := hB.getD 0
    all_goals try rw [wrap64 (n := b.getD 5 0) (by omega) (by omega), wrap64 (n := 19 * b.getD 5 0) (by omega) (by omega), wrap64 (n := 6 + 19 * b.getD 5 0) (by omega) (by omega)] at *
    all_goals try (obtain ⟨j, hj, rfl, rfl⟩ := ‹IGb _ _ _›)
    all_goals try (
      have w1 : IntKind.i64.wrap (((6 + 19 * j : Nat) : Int) + 19) = ((6 + 19 * (j + 1) : Nat) : Int) := by rw [wrap64] <;> omega
      have w2 : ((((6 + 19 * (j + 1) : Nat) : Int)).toNat - (((6 + 19 * j : Nat) : Int)).toNat) = 19 := by omega
      have w3 : (((6 + 19 * j : Nat) : Int)).toNat = 6 + 19 * j := by omega
      have w4 : (parseJs j (b.drop 6)).length = j := parseJs_length _ _
      try rw [w1])
    all_goals try (refine Vc.mk ?_; omega)
    all_goals try (
      have e : getBE b = 10 := by unfold getBE; rw [if_pos (by omega)]
      exact Res.mk (by unfold getB; rw [if_neg (by rw [e]; decide), e]; exact ⟨rfl, rfl, rfl, rfl⟩))
    all_goals try (
      have e : getBE b = 14 := by unfold getBE; rw [if_neg (by omega), if_pos (by omega)]
      exact Res.mk (by unfold getB; rw [if_neg (by rw [e]; decide), e]; exact ⟨rfl, rfl, rfl, rfl⟩))
    · exact Vc.mk ⟨(hB.drop 1).take _, by rw [List.length_take]; omega⟩
    · exact ⟨⟨0, Nat.zero_le _, rfl, rfl⟩⟩
    · rw [w2, w3]
      exact Vc.mk ⟨(hB.drop _).take _, by rw [List.length_take, List.length_drop]; omega⟩
    · refine Vc.mk ?_
      simp only [List.length_cons, List.length_nil]
      omega
    · rw [w2, w3, parseJ_take]
      exact ⟨⟨j + 1, by omega, rfl, by rw [parseJs_snoc, List.drop_drop]⟩, by omega⟩
    · have hj' : b.length = 6 + 19 * j := by omega
      have hr := ‹rightB _ = _›
      rw [rB_eq (by omega) hj' h0] at hr
      have e : getBE b = 12 := by unfold getBE; rw [if_neg (by omega), if_neg (by omega), hr]; rfl
      exact Res.mk (by unfold getB; rw [if_neg (by rw [e]; decide), e]; exact ⟨rfl, rfl, rfl, rfl⟩)
    · have hj' : b.length = 6 + 19 * j := by omega
      have hr := ‹rightB _ = _›
      have hv := rB_val (by omega) hj' h0 ((rightB_iff _).1 hr).2.2.2.1
      rw [rB_eq (by omega) hj' h0] at hr
      have e : getBE b = 0 := by unfold getBE; rw [if_neg (by omega), if_neg (by omega), hr]; rfl
      have e2 : getB b = batchOf b := by unfold getB; rw [if_pos e]
      rw [e2, hv, e]
      exact Res.mk ⟨rfl, rfl, rfl, rfl⟩
  · exact h.fail.elim

end Go.Proofs.Ytncdakkigkmfjaa.Sx
