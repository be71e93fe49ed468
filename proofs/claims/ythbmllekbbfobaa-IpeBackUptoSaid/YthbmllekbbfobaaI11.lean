import Derived.Test.YthbmllekbbfobaaProg
import Derived.Test.YthbmllekbbfobaaSxU
import Derived.IntWalk
import Derived.Test.YthbmllekbbfobaaI11c4
/-! ipe, Body -/
namespace Go.Proofs.Ythbmllekbbfobaa.Sx
open Go
set_option linter.unusedVariables false
set_option linter.unusedSimpArgs false
set_option maxRecDepth 100000

def T_fareboxlaw10_IpeBack : TT := [(3, ⟨.int .i64, 1, 8, [.int .i64 0], some .int⟩),
  (4, ⟨.bool, 1, 1, [.bool false], some .bool⟩),
  (5, ⟨.int .u8, 1, 1, [.int .u8 0], some .u8⟩),
  (9, ⟨.str, 1, 16, [.string .empty], some .str⟩),
  (25, ⟨.slice 5, 1, 24, [.slice none 0 0], none⟩),
  (27, ⟨.int .i64, 1, 8, [.int .i64 0], some .int⟩),
  (56, ⟨.int .i64, 1, 8, [.int .i64 0], some .int⟩),
  (58, ⟨.strct [(0, 56), (1, 3), (2, 3), (3, 3), (4, 3), (5, 3), (6, 3), (7, 3), (8, 4), (9, 3), (10, 3), (11, 3), (12, 3), (13, 4)], 14, 112, [.int .i64 0, .int .i64 0, .int .i64 0, .int .i64 0, .int .i64 0, .int .i64 0, .int .i64 0, .int .i64 0, .bool false, .int .i64 0, .int .i64 0, .int .i64 0, .int .i64 0, .bool false], some .product⟩),
  (59, ⟨.int .i64, 1, 8, [.int .i64 0], some .int⟩),
  (164, ⟨.slice 58, 1, 24, [.slice none 0 0], none⟩)]
theorem tOk_fareboxlaw10_IpeBack : TOk Try.prog T_fareboxlaw10_IpeBack := tOk_of (by kernel_rfl)
def sp_fareboxlaw10_IpeBack : Spec := fun args hp => match args, hp with
  | [.agg p_cs, .val (.int .i64 t), .slF 0], [(0, .row o_body .u8 body)] => (match decS .product p_cs with
    | some p => .vc (isB body ∧ body.length ≤ 1048576) (bv true) []
    | none => .fail "struct")
  | _, _ => .fail "fareboxlaw10_IpeBack"
abbrev k_fareboxlaw10_IpeBack : List (Option RK) := [none, none, some .u8]
def a_fareboxlaw10_IpeBack : List SV → List (Nat × VB) → Anns := fun _ _ => []
set_option maxHeartbeats 20000000 in
theorem ok_fareboxlaw10_IpeBack : GOk Try.prog 7 (lift k_fareboxlaw10_IpeBack sp_fareboxlaw10_IpeBack) := by
  refine pf_ok (T := T_fareboxlaw10_IpeBack) (Γ := (26, lift k_fareboxlaw10_awake sp_fareboxlaw10_awake) :: (31, lift k_fareboxlaw10_purse sp_fareboxlaw10_purse) :: (28, lift k_ipe_Body sp_ipe_Body) :: (34, lift k_ipe_Open sp_ipe_Open) :: (30, lift k_ipe_Right sp_ipe_Right) :: []) tOk_fareboxlaw10_IpeBack (gOks_cons ok_fareboxlaw10_awake (gOks_cons ok_fareboxlaw10_purse (gOks_cons ok_ipe_Body (gOks_cons ok_ipe_Open (gOks_cons ok_ipe_Right (gOks_nil _)))))) mixed Try.func7 (c := body Try.f7) (by kernel_rfl) (by kernel_rfl) k_fareboxlaw10_IpeBack sp_fareboxlaw10_IpeBack (by kernel_rfl) (by kernel_rfl) a_fareboxlaw10_IpeBack ?_
  intro args hp s u hfit h
  unfold sp_fareboxlaw10_IpeBack at h
  split at h
  · rename_i p_cs t o_body body
    split at h
    case h_2 => exact h.fail.elim
    rename_i p h_p
    obtain rfl := decS_ok (k := .product) rfl h_p
    clear h_p
    change Product at p
    obtain ⟨hvc, rfl, rfl⟩ := h.vc
    clear h hfit
    change List Int at body
    conv => whnf
    repeat' (first
      | (refine And.intro ?_ ?_ <;> try conv => whnf)
      | (intro hh; first | (cases hh; done) | conv => whnf))
    all_goals try first | rfl | kernel_rfl
    all_goals try simp only [decide_eq_true_eq, decide_eq_false_iff_not] at *
    all_goals try simp only [Key_eta, Share_eta, Journey_eta, Batch_eta, FieldT_eta, OpB_eta, Product_eta, Item_eta, Delta_eta, Elem_eta, Rule_eta, Do10_eta, Key_beq, Share_beq, Journey_beq, FieldT_beq, Product_beq, Item_beq, Do10_beq, toNat0, toNat1, toNat2, toNat3, toNat4, toNat5, toNat6, toNat7, toNat8, toNat9, toNat10, toNat11, toNat12, toNat13, toNat14, toNat15, toNat16, toNat17, toNat18, toNat19, iA, iOf, atS, rwA, castK, zK, true_and, and_true, decide_eq_true_eq, decide_eq_false_iff_not, beq_iff_eq, bne_iff_ne, beq_eq_false_iff_ne, bne_eq_false_iff_eq, Bool.not_eq_true', Bool.not_eq_false', Bool.not_eq_true, Bool.not_eq_false, Nat.succ_eq_add_one, Int.not_lt, Int.not_le, gt_iff_lt, ge_iff_le, show bytesS T_fareboxlaw10_IpeBack 25 = 1 from rfl, show bytesS T_fareboxlaw10_IpeBack 164 = 112 from rfl] at *
    all_goals obtain ⟨hB, hL⟩ := hvc
    all_goals have hq := bodyL_ok p t
    all_goals try (exact Vc.mk hq)
    all_goals try (exact Vc.mk ⟨hB, hL⟩)
    all_goals try (refine Vc.mk ?_; simp; done)
    all_goals refine Res.mk ?_
    all_goals have ho := open_L p t
    all_goals have hn := op_not body
    all_goals have hk := back_L hB
    all_goals try (simp_all; done)
    all_goals (
      exfalso
      have e := (hn ‹opE body ≠ 0›).1
      clear ho hn hk hq
      generalize opP body = q at *
      subst e
      simp [zP] at *)
  · exact h.fail.elim

end Go.Proofs.Ythbmllekbbfobaa.Sx
