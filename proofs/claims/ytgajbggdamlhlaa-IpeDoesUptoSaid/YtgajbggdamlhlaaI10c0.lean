import Derived.Test.YtgajbggdamlhlaaProg
import Derived.Test.YtgajbggdamlhlaaSxU
import Derived.IntWalk
import Derived.Test.YtgajbggdamlhlaaI10r
/-! ipe, laws -/
namespace Go.Proofs.Ytgajbggdamlhlaa.Sx
open Go
set_option linter.unusedVariables false
set_option linter.unusedSimpArgs false
set_option maxRecDepth 100000

def T_fareboxlaw10_purse : TT := [(3, ⟨.int .i64, 1, 8, [.int .i64 0], some .int⟩),
  (4, ⟨.bool, 1, 1, [.bool false], some .bool⟩),
  (39, ⟨.int .i64, 1, 8, [.int .i64 0], some .int⟩),
  (41, ⟨.strct [(0, 39), (1, 3), (2, 3), (3, 3), (4, 3), (5, 3), (6, 3), (7, 3), (8, 4), (9, 3), (10, 3), (11, 3), (12, 3), (13, 4)], 14, 112, [.int .i64 0, .int .i64 0, .int .i64 0, .int .i64 0, .int .i64 0, .int .i64 0, .int .i64 0, .int .i64 0, .bool false, .int .i64 0, .int .i64 0, .int .i64 0, .int .i64 0, .bool false], some .product⟩)]
theorem tOk_fareboxlaw10_purse : TOk Try.prog T_fareboxlaw10_purse := tOk_of (by kernel_rfl)
def sp_fareboxlaw10_purse : Spec := fun args hp => match args, hp with
  | [], [] => .ok (svProduct purseP) []
  | _, _ => .fail "fareboxlaw10_purse"
abbrev k_fareboxlaw10_purse : List (Option RK) := []
def a_fareboxlaw10_purse : List SV → List (Nat × VB) → Anns := fun _ _ => []
set_option maxHeartbeats 20000000 in
theorem ok_fareboxlaw10_purse : GOk Try.prog 51 (lift k_fareboxlaw10_purse sp_fareboxlaw10_purse) := by
  refine pf_ok (T := T_fareboxlaw10_purse) (Γ := []) tOk_fareboxlaw10_purse (gOks_nil _) mixed Try.func51 (c := body Try.f51) (by kernel_rfl) (by kernel_rfl) k_fareboxlaw10_purse sp_fareboxlaw10_purse (by kernel_rfl) (by kernel_rfl) a_fareboxlaw10_purse ?_
  intro args hp s u hfit h
  unfold sp_fareboxlaw10_purse at h
  split at h
  · skip
    obtain ⟨rfl, rfl⟩ := h.ok
    clear h hfit
    conv => whnf
    repeat' (first
      | (refine And.intro ?_ ?_ <;> try conv => whnf)
      | (intro hh; first | (cases hh; done) | conv => whnf))
    all_goals try first | rfl | kernel_rfl
    all_goals try simp only [decide_eq_true_eq, decide_eq_false_iff_not] at *
    all_goals try simp only [Key_eta, Share_eta, Journey_eta, Batch_eta, FieldT_eta, OpB_eta, Product_eta, Item_eta, Delta_eta, Elem_eta, Rule_eta, Do10_eta, Key_beq, Share_beq, Journey_beq, FieldT_beq, Product_beq, Item_beq, Do10_beq, toNat0, toNat1, toNat2, toNat3, toNat4, toNat5, toNat6, toNat7, toNat8, toNat9, toNat10, toNat11, toNat12, toNat13, toNat14, toNat15, toNat16, toNat17, toNat18, toNat19, iA, iOf, atS, rwA, castK, zK, true_and, and_true, decide_eq_true_eq, decide_eq_false_iff_not, beq_iff_eq, bne_iff_ne, beq_eq_false_iff_ne, bne_eq_false_iff_eq, Bool.not_eq_true', Bool.not_eq_false', Bool.not_eq_true, Bool.not_eq_false, Nat.succ_eq_add_one, Int.not_lt, Int.not_le, gt_iff_lt, ge_iff_le] at *
    all_goals first | exact Res.mk trivial | exact Res.mk ⟨rfl, rfl, rfl, rfl, rfl, rfl, rfl, rfl, rfl, rfl, rfl, rfl, rfl, rfl⟩
  · exact h.fail.elim

def T_fareboxlaw10_awake : TT := [(3, ⟨.int .i64, 1, 8, [.int .i64 0], some .int⟩),
  (4, ⟨.bool, 1, 1, [.bool false], some .bool⟩),
  (5, ⟨.int .u8, 1, 1, [.int .u8 0], some .u8⟩),
  (24, ⟨.int .i64, 1, 8, [.int .i64 0], some .int⟩),
  (39, ⟨.int .i64, 1, 8, [.int .i64 0], some .int⟩),
  (41, ⟨.strct [(0, 39), (1, 3), (2, 3), (3, 3), (4, 3), (5, 3), (6, 3), (7, 3), (8, 4), (9, 3), (10, 3), (11, 3), (12, 3), (13, 4)], 14, 112, [.int .i64 0, .int .i64 0, .int .i64 0, .int .i64 0, .int .i64 0, .int .i64 0, .int .i64 0, .int .i64 0, .bool false, .int .i64 0, .int .i64 0, .int .i64 0, .int .i64 0, .bool false], some .product⟩),
  (43, ⟨.slice 5, 1, 24, [.slice none 0 0], none⟩),
  (49, ⟨.strct [(0, 41)], 14, 112, [.int .i64 0, .int .i64 0, .int .i64 0, .int .i64 0, .int .i64 0, .int .i64 0, .int .i64 0, .int .i64 0, .bool false, .int .i64 0, .int .i64 0, .int .i64 0, .int .i64 0, .bool false], none⟩)]
theorem tOk_fareboxlaw10_awake : TOk Try.prog T_fareboxlaw10_awake := tOk_of (by kernel_rfl)
def sp_fareboxlaw10_awake : Spec := fun args hp => match args, hp with
  | [], [] => .ok (bv true) []
  | _, _ => .fail "fareboxlaw10_awake"
abbrev k_fareboxlaw10_awake : List (Option RK) := []
def a_fareboxlaw10_awake : List SV → List (Nat × VB) → Anns := fun _ _ => []
set_option maxHeartbeats 20000000 in
theorem ok_fareboxlaw10_awake : GOk Try.prog 20 (lift k_fareboxlaw10_awake sp_fareboxlaw10_awake) := by
  refine pf_ok (T := T_fareboxlaw10_awake) (Γ := (51, lift k_fareboxlaw10_purse sp_fareboxlaw10_purse) :: (22, lift k_ipe_Form sp_ipe_Form) :: (43, lift k_ipe_Parse sp_ipe_Parse) :: (24, lift k_ipe_Thing_In sp_ipe_Thing_In) :: (25, lift k_ipe_Thing_Out sp_ipe_Thing_Out) :: []) tOk_fareboxlaw10_awake (gOks_cons ok_fareboxlaw10_purse (gOks_cons ok_ipe_Form (gOks_cons ok_ipe_Parse (gOks_cons ok_ipe_Thing_In (gOks_cons ok_ipe_Thing_Out (gOks_nil _)))))) mixed Try.func20 (c := body Try.f20) (by kernel_rfl) (by kernel_rfl) k_fareboxlaw10_awake sp_fareboxlaw10_awake (by kernel_rfl) (by kernel_rfl) a_fareboxlaw10_awake ?_
  intro args hp s u hfit h
  unfold sp_fareboxlaw10_awake at h
  split at h
  · skip
    obtain ⟨rfl, rfl⟩ := h.ok
    clear h hfit
    conv => whnf
    repeat' (first
      | (refine And.intro ?_ ?_ <;> try conv => whnf)
      | (intro hh; first | (cases hh; done) | conv => whnf))
    all_goals try first | rfl | kernel_rfl
    all_goals try simp only [decide_eq_true_eq, decide_eq_false_iff_not] at *
    all_goals try simp only [Key_eta, Share_eta, Journey_eta, Batch_eta, FieldT_eta, OpB_eta, Product_eta, Item_eta, Delta_eta, Elem_eta, Rule_eta, Do10_eta, Key_beq, Share_beq, Journey_beq, FieldT_beq, Product_beq, Item_beq, Do10_beq, toNat0, toNat1, toNat2, toNat3, toNat4, toNat5, toNat6, toNat7, toNat8, toNat9, toNat10, toNat11, toNat12, toNat13, toNat14, toNat15, toNat16, toNat17, toNat18, toNat19, iA, iOf, atS, rwA, castK, zK, true_and, and_true, decide_eq_true_eq, decide_eq_false_iff_not, beq_iff_eq, bne_iff_ne, beq_eq_false_iff_ne, bne_eq_false_iff_eq, Bool.not_eq_true', Bool.not_eq_false', Bool.not_eq_true, Bool.not_eq_false, Nat.succ_eq_add_one, Int.not_lt, Int.not_le, gt_iff_lt, ge_iff_le, show bytesS T_fareboxlaw10_awake 43 = 1 from rfl] at *
    · exact Vc.mk ⟨formL_isB _, by decide⟩
    · exact Vc.mk rfl
    · exact Vc.mk (jn_right rfl rfl)
    · refine Vc.mk ?_; omega
    · refine Vc.mk ?_; omega
    · exact Res.mk rfl
  · exact h.fail.elim

def T_fareboxlaw10_IpeReads : TT := [(3, ⟨.int .i64, 1, 8, [.int .i64 0], some .int⟩),
  (4, ⟨.bool, 1, 1, [.bool false], some .bool⟩),
  (5, ⟨.int .u8, 1, 1, [.int .u8 0], some .u8⟩),
  (9, ⟨.str, 1, 16, [.string .empty], some .str⟩),
  (24, ⟨.int .i64, 1, 8, [.int .i64 0], some .int⟩),
  (39, ⟨.int .i64, 1, 8, [.int .i64 0], some .int⟩),
  (41, ⟨.strct [(0, 39), (1, 3), (2, 3), (3, 3), (4, 3), (5, 3), (6, 3), (7, 3), (8, 4), (9, 3), (10, 3), (11, 3), (12, 3), (13, 4)], 14, 112, [.int .i64 0, .int .i64 0, .int .i64 0, .int .i64 0, .int .i64 0, .int .i64 0, .int .i64 0, .int .i64 0, .bool false, .int .i64 0, .int .i64 0, .int .i64 0, .int .i64 0, .bool false], some .product⟩),
  (43, ⟨.slice 5, 1, 24, [.slice none 0 0], none⟩),
  (92, ⟨.int .i64, 1, 8, [.int .i64 0], some .int⟩)]
theorem tOk_fareboxlaw10_IpeReads : TOk Try.prog T_fareboxlaw10_IpeReads := tOk_of (by kernel_rfl)
def sp_fareboxlaw10_IpeReads : Spec := fun args hp => match args, hp with
  | [.slF 0, .slF 1], [(0, .row o_b .u8 b), (1, .row o_body .u8 body)] => .vc ((isB b ∧ b.length ≤ 1048576) ∧ isB body ∧ body.length ≤ 1048576) (bv true) []
  | _, _ => .fail "fareboxlaw10_IpeReads"
abbrev k_fareboxlaw10_IpeReads : List (Option RK) := [some .u8, some .u8]
def a_fareboxlaw10_IpeReads : List SV → List (Nat × VB) → Anns := fun _ _ => []
set_option maxHeartbeats 20000000 in
theorem ok_fareboxlaw10_IpeReads : GOk Try.prog 14 (lift k_fareboxlaw10_IpeReads sp_fareboxlaw10_IpeReads) := by
  refine pf_ok (T := T_fareboxlaw10_IpeReads) (Γ := (20, lift k_fareboxlaw10_awake sp_fareboxlaw10_awake) :: (43, lift k_ipe_Parse sp_ipe_Parse) :: (44, lift k_fareboxref10_Parse sp_fareboxref10_Parse) :: (45, lift k_ipe_Open sp_ipe_Open) :: (46, lift k_fareboxref10_Open sp_fareboxref10_Open) :: []) tOk_fareboxlaw10_IpeReads (gOks_cons ok_fareboxlaw10_awake (gOks_cons ok_ipe_Parse (gOks_cons ok_fareboxref10_Parse (gOks_cons ok_ipe_Open (gOks_cons ok_fareboxref10_Open (gOks_nil _)))))) mixed Try.func14 (c := body Try.f14) (by kernel_rfl) (by kernel_rfl) k_fareboxlaw10_IpeReads sp_fareboxlaw10_IpeReads (by kernel_rfl) (by kernel_rfl) a_fareboxlaw10_IpeReads ?_
  intro args hp s u hfit h
  unfold sp_fareboxlaw10_IpeReads at h
  split at h
  · rename_i o_b b o_body body
    obtain ⟨hvc, rfl, rfl⟩ := h.vc
    clear h hfit
    change List Int at b
    change List Int at body
    conv => whnf
    repeat' (first
      | (refine And.intro ?_ ?_ <;> try conv => whnf)
      | (intro hh; first | (cases hh; done) | conv => whnf))
    all_goals try first | rfl | kernel_rfl
    all_goals try simp only [decide_eq_true_eq, decide_eq_false_iff_not] at *
    all_goals try simp only [Key_eta, Share_eta, Journey_eta, Batch_eta, FieldT_eta, OpB_eta, Product_eta, Item_eta, Delta_eta, Elem_eta, Rule_eta, Do10_eta, Key_beq, Share_beq, Journey_beq, FieldT_beq, Product_beq, Item_beq, Do10_beq, toNat0, toNat1, toNat2, toNat3, toNat4, toNat5, toNat6, toNat7, toNat8, toNat9, toNat10, toNat11, toNat12, toNat13, toNat14, toNat15, toNat16, toNat17, toNat18, toNat19, iA, iOf, atS, rwA, castK, zK, true_and, and_true, decide_eq_true_eq, decide_eq_false_iff_not, beq_iff_eq, bne_iff_ne, beq_eq_false_iff_ne, bne_eq_false_iff_eq, Bool.not_eq_true', Bool.not_eq_false', Bool.not_eq_true, Bool.not_eq_false, Nat.succ_eq_add_one, Int.not_lt, Int.not_le, gt_iff_lt, ge_iff_le, show bytesS T_fareboxlaw10_IpeReads 43 = 1 from rfl] at *
    all_goals obtain ⟨⟨hB, hL⟩, hB', hL'⟩ := hvc
    all_goals try simp only [List.nil_append, ne_eq, not_true_eq_false] at *
    all_goals first
      | exact Vc.mk ⟨hB, hL⟩
      | exact Vc.mk ⟨hB', hL'⟩
      | exact Res.mk rfl
      | exact Res.mk trivial
      | (refine Vc.mk ?_; simp only [List.length_nil]; omega)
      | (exfalso; assumption)
  · exact h.fail.elim

def T_fareboxlaw10_IpeApart : TT := [(3, ⟨.int .i64, 1, 8, [.int .i64 0], some .int⟩),
  (4, ⟨.bool, 1, 1, [.bool false], some .bool⟩),
  (5, ⟨.int .u8, 1, 1, [.int .u8 0], some .u8⟩),
  (9, ⟨.str, 1, 16, [.string .empty], some .str⟩),
  (24, ⟨.int .i64, 1, 8, [.int .i64 0], some .int⟩),
  (39, ⟨.int .i64, 1, 8, [.int .i64 0], some .int⟩),
  (41, ⟨.strct [(0, 39), (1, 3), (2, 3), (3, 3), (4, 3), (5, 3), (6, 3), (7, 3), (8, 4), (9, 3), (10, 3), (11, 3), (12, 3), (13, 4)], 14, 112, [.int .i64 0, .int .i64 0, .int .i64 0, .int .i64 0, .int .i64 0, .int .i64 0, .int .i64 0, .int .i64 0, .bool false, .int .i64 0, .int .i64 0, .int .i64 0, .int .i64 0, .bool false], some .product⟩),
  (43, ⟨.slice 5, 1, 24, [.slice none 0 0], none⟩)]
theorem tOk_fareboxlaw10_IpeApart : TOk Try.prog T_fareboxlaw10_IpeApart := tOk_of (by kernel_rfl)
def sp_fareboxlaw10_IpeApart : Spec := fun args hp => match args, hp with
  | [.agg a_cs, .agg b_cs], [] => (match decS .product a_cs with
    | some a => (match decS .product b_cs with
    | some b => .ok (bv true) []
    | none => .fail "struct")
    | none => .fail "struct")
  | _, _ => .fail "fareboxlaw10_IpeApart"
abbrev k_fareboxlaw10_IpeApart : List (Option RK) := [none, none]
def a_fareboxlaw10_IpeApart : List SV → List (Nat × VB) → Anns := fun _ _ => []
set_option maxHeartbeats 20000000 in
theorem ok_fareboxlaw10_IpeApart : GOk Try.prog 8 (lift k_fareboxlaw10_IpeApart sp_fareboxlaw10_IpeApart) := by
  refine pf_ok (T := T_fareboxlaw10_IpeApart) (Γ := (20, lift k_fareboxlaw10_awake sp_fareboxlaw10_awake) :: (21, lift k_fareboxref10_Right sp_fareboxref10_Right) :: (22, lift k_ipe_Form sp_ipe_Form) :: []) tOk_fareboxlaw10_IpeApart (gOks_cons ok_fareboxlaw10_awake (gOks_cons ok_fareboxref10_Right (gOks_cons ok_ipe_Form (gOks_nil _)))) mixed Try.func8 (c := body Try.f8) (by kernel_rfl) (by kernel_rfl) k_fareboxlaw10_IpeApart sp_fareboxlaw10_IpeApart (by kernel_rfl) (by kernel_rfl) a_fareboxlaw10_IpeApart ?_
  intro args hp s u hfit h
  unfold sp_fareboxlaw10_IpeApart at h
  split at h
  · rename_i a_cs b_cs
    split at h
    case h_2 => exact h.fail.elim
    rename_i a h_a
    obtain rfl := decS_ok (k := .product) rfl h_a
    clear h_a
    change Product at a
    split at h
    case h_2 => exact h.fail.elim
    rename_i b h_b
    obtain rfl := decS_ok (k := .product) rfl h_b
    clear h_b
    change Product at b
    obtain ⟨rfl, rfl⟩ := h.ok
    clear h hfit
    conv => whnf
    repeat' (first
      | (refine And.intro ?_ ?_ <;> try conv => whnf)
      | (intro hh; first | (cases hh; done) | conv => whnf))
    all_goals try first | rfl | kernel_rfl
    all_goals try simp only [decide_eq_true_eq, decide_eq_false_iff_not] at *
    all_goals try simp only [Key_eta, Share_eta, Journey_eta, Batch_eta, FieldT_eta, OpB_eta, Product_eta, Item_eta, Delta_eta, Elem_eta, Rule_eta, Do10_eta, Key_beq, Share_beq, Journey_beq, FieldT_beq, Product_beq, Item_beq, Do10_beq, toNat0, toNat1, toNat2, toNat3, toNat4, toNat5, toNat6, toNat7, toNat8, toNat9, toNat10, toNat11, toNat12, toNat13, toNat14, toNat15, toNat16, toNat17, toNat18, toNat19, iA, iOf, atS, rwA, castK, zK, true_and, and_true, decide_eq_true_eq, decide_eq_false_iff_not, beq_iff_eq, bne_iff_ne, beq_eq_false_iff_ne, bne_eq_false_iff_eq, Bool.not_eq_true', Bool.not_eq_false', Bool.not_eq_true, Bool.not_eq_false, Nat.succ_eq_add_one, Int.not_lt, Int.not_le, gt_iff_lt, ge_iff_le, show bytesS T_fareboxlaw10_IpeApart 43 = 1 from rfl] at *
    all_goals try (exact Res.mk trivial)
    all_goals have ha : rightP a = true := ‹_›
    all_goals have hb : rightP b = true := ‹_›
    all_goals rw [formL_right ha, formL_right hb] at *
    all_goals have la := formB_len ha
    all_goals have lb := formB_len hb
    all_goals try (refine Res.mk ?_; omega)
    all_goals try simp only [minI, Int.toNat_natCast, Nat.sub_zero, List.drop_zero] at *
    all_goals try (refine Vc.mk ?_; omega)
    · exfalso
      have hne : ¬ a = b := ‹_›
      exact hne (form_inj ha hb (form_pre ha hb _ rfl (bytesStr_inj ((formB_isB ha).take _) ((formB_isB hb).take _) ‹_›)))
    · exact absurd (form_dec ha hb) ‹_›
  · exact h.fail.elim

end Go.Proofs.Ytgajbggdamlhlaa.Sx
