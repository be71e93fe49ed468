import Derived.Test.YthbmllekbbfobaaProg
import Derived.Test.YthbmllekbbfobaaSxU
import Derived.IntWalk
import Derived.Test.YthbmllekbbfobaaLFr
/-! ListsForms -/
namespace Go.Proofs.Ythbmllekbbfobaa.Sx
open Go
set_option linter.unusedVariables false
set_option linter.unusedSimpArgs false
set_option maxRecDepth 100000

def T_fareboxlaw12_ListsForms : TT := [(3, ⟨.int .i64, 1, 8, [.int .i64 0], some .int⟩),
  (4, ⟨.bool, 1, 1, [.bool false], some .bool⟩),
  (5, ⟨.int .u8, 1, 1, [.int .u8 0], some .u8⟩),
  (9, ⟨.str, 1, 16, [.string .empty], some .str⟩),
  (22, ⟨.slice 52, 1, 24, [.slice none 0 0], none⟩),
  (24, ⟨.strct [(0, 3), (1, 22), (2, 22)], 3, 56, [.int .i64 0, .slice none 0 0, .slice none 0 0], some .delta⟩),
  (25, ⟨.slice 5, 1, 24, [.slice none 0 0], none⟩),
  (27, ⟨.int .i64, 1, 8, [.int .i64 0], none⟩),
  (36, ⟨.strct [(0, 3), (1, 22), (2, 22)], 3, 56, [.int .i64 0, .slice none 0 0, .slice none 0 0], none⟩),
  (52, ⟨.strct [(0, 3), (1, 3), (2, 3), (3, 3), (4, 3)], 5, 40, [.int .i64 0, .int .i64 0, .int .i64 0, .int .i64 0, .int .i64 0], some .item⟩)]
theorem tOk_fareboxlaw12_ListsForms : TOk Try.prog T_fareboxlaw12_ListsForms := tOk_of (by kernel_rfl)
def sp_fareboxlaw12_ListsForms : Spec := fun args hp => match args, hp with
  | [.agg [.val (.int .i64 d_to), .slF 0, .slF 1], .slF 2], [(0, .row o_d_add .item d_add), (1, .row o_d_off .item d_off), (2, .row o_b .u8 b)] => .vc ((⟨d_to, d_add, d_off⟩ : Delta).add.length ≤ 1048576 ∧ (⟨d_to, d_add, d_off⟩ : Delta).off.length ≤ 1048576 ∧ isB b ∧ b.length ≤ 1048576) (bv true) []
  | _, _ => .fail "fareboxlaw12_ListsForms"
abbrev k_fareboxlaw12_ListsForms : List (Option RK) := [none, some .u8]
def a_fareboxlaw12_ListsForms : List SV → List (Nat × VB) → Anns := fun _ _ => []
set_option maxHeartbeats 20000000 in
theorem ok_fareboxlaw12_ListsForms : GOk Try.prog 3 (lift k_fareboxlaw12_ListsForms sp_fareboxlaw12_ListsForms) := by
  refine pf_ok (T := T_fareboxlaw12_ListsForms) (Γ := (14, lift k_fareboxlaw12_awake sp_fareboxlaw12_awake) :: (16, lift k_fareboxlaw12_copied sp_fareboxlaw12_copied) :: (15, lift k_lists_Putq sp_lists_Putq) :: (18, lift k_lists_Getq sp_lists_Getq) :: (22, lift k_lists_Hot_Apply sp_lists_Hot_Apply) :: (25, lift k_lists_Hot_Has sp_lists_Hot_Has) :: (21, lift k_lists_list_Version sp_lists_list_Version) :: (23, lift k_lists_list_Items sp_lists_list_Items) :: (17, lift k_fareboxref12_Putq sp_fareboxref12_Putq) :: (20, lift k_fareboxref12_Get sp_fareboxref12_Get) :: (19, lift k_fareboxref12_SameV sp_fareboxref12_SameV) :: (24, lift k_fareboxref12_In sp_fareboxref12_In) :: []) tOk_fareboxlaw12_ListsForms (gOks_cons ok_fareboxlaw12_awake (gOks_cons ok_fareboxlaw12_copied (gOks_cons ok_lists_Putq (gOks_cons ok_lists_Getq (gOks_cons ok_lists_Hot_Apply (gOks_cons ok_lists_Hot_Has (gOks_cons ok_lists_list_Version (gOks_cons ok_lists_list_Items (gOks_cons ok_fareboxref12_Putq (gOks_cons ok_fareboxref12_Get (gOks_cons ok_fareboxref12_SameV (gOks_cons ok_fareboxref12_In (gOks_nil _))))))))))))) mixed Try.func3 (c := body Try.f3) (by kernel_rfl) (by kernel_rfl) k_fareboxlaw12_ListsForms sp_fareboxlaw12_ListsForms (by kernel_rfl) (by kernel_rfl) a_fareboxlaw12_ListsForms ?_
  intro args hp s u hfit h
  unfold sp_fareboxlaw12_ListsForms at h
  split at h
  · rename_i d_to o_d_add d_add o_d_off d_off o_b b
    obtain ⟨hvc, rfl, rfl⟩ := h.vc
    clear h hfit
    change List Int at b
    conv => whnf
    repeat' (first
      | (refine And.intro ?_ ?_ <;> try conv => whnf)
      | (intro hh; first | (cases hh; done) | conv => whnf))
    all_goals try first | rfl | kernel_rfl
    all_goals try simp only [decide_eq_true_eq, decide_eq_false_iff_not] at *
    all_goals try simp only [Key_eta, Share_eta, Journey_eta, Batch_eta, FieldT_eta, OpB_eta, Product_eta, Item_eta, Delta_eta, Elem_eta, Rule_eta, Key_beq, Share_beq, Journey_beq, FieldT_beq, Product_beq, Item_beq, toNat0, toNat1, toNat2, toNat3, toNat4, toNat5, toNat6, toNat7, toNat8, toNat9, toNat10, toNat11, toNat12, toNat13, toNat14, toNat15, toNat16, toNat17, toNat18, toNat19, iA, iOf, atS, rwA, castK, zK, true_and, and_true, decide_eq_true_eq, decide_eq_false_iff_not, beq_iff_eq, bne_iff_ne, beq_eq_false_iff_ne, bne_eq_false_iff_eq, Bool.not_eq_true', Bool.not_eq_false', Bool.not_eq_true, Bool.not_eq_false, Nat.succ_eq_add_one, Int.not_lt, Int.not_le, gt_iff_lt, ge_iff_le, show bytesS T_fareboxlaw12_ListsForms 22 = 40 from rfl, show bytesS T_fareboxlaw12_ListsForms 25 = 1 from rfl, List.nil_append, ne_eq, not_true_eq_false, List.drop_zero] at *
    all_goals obtain ⟨hA, hO, hB, hL⟩ := hvc
    all_goals try (exfalso; assumption)
    all_goals try contradiction
    all_goals try (refine Vc.mk ?_; first | omega | exact ⟨hB, hL⟩)
    all_goals try (
      have hgp := get_put ‹putDE d_to d_add d_off = 0›
      obtain ⟨p1, p2, p3, p4, p5, p6⟩ := hgp
      simp only [p1, p2, p3, p4, not_true_eq_false, ne_eq] at *)
    all_goals try contradiction
    all_goals try (
      have hpg := put_get hB ‹getDE b = 0›
      obtain ⟨g1, g2, g3, g4, g5⟩ := hpg
      have g6 := getD_len b hB
      simp only [g4, g5, not_true_eq_false, ne_eq] at *)
    all_goals try (simp only [g1, g2, g3, not_true_eq_false, ne_eq] at *)
    all_goals try contradiction
    all_goals try (
      have g7 := getD_no ‹¬getDE b = 0›
      simp only [g7, not_true_eq_false, ne_eq] at *)
    all_goals try contradiction
    all_goals try (exact Res.mk rfl)
    all_goals try (refine Vc.mk ?_; first | omega | (simp only [List.length_nil]; omega) | (simp only [List.length_take, List.length_drop, itemsAt_length, List.length_nil] at *; omega))
    all_goals try (
      have h0 := putD_no ‹¬putDE d_to d_add d_off = 0›
      exact absurd (show ((putD d_to d_add d_off).length : Int) = 0 by rw [h0]; rfl) ‹_›)
    all_goals try (exact Res.mk trivial)
    all_goals first
      | (refine Vc.mk ⟨putD_isB _ _ _, ?_⟩
         have h1 := putD_length (to := d_to) (add := d_add) (off := d_off)
         omega)
  · exact h.fail.elim

end Go.Proofs.Ythbmllekbbfobaa.Sx
