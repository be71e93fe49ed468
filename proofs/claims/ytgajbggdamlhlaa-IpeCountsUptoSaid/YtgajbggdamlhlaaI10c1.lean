import Derived.Test.YtgajbggdamlhlaaProg
import Derived.Test.YtgajbggdamlhlaaSxU
import Derived.IntWalk
import Derived.Test.YtgajbggdamlhlaaI10c0
/-! ipe, laws -/
namespace Go.Proofs.Ytgajbggdamlhlaa.Sx
open Go
set_option linter.unusedVariables false
set_option linter.unusedSimpArgs false
set_option maxRecDepth 100000

def T_fareboxlaw10_IpeDoes : TT := [(3, ⟨.int .i64, 1, 8, [.int .i64 0], some .int⟩),
  (4, ⟨.bool, 1, 1, [.bool false], some .bool⟩),
  (24, ⟨.int .i64, 1, 8, [.int .i64 0], some .int⟩),
  (39, ⟨.int .i64, 1, 8, [.int .i64 0], some .int⟩),
  (41, ⟨.strct [(0, 39), (1, 3), (2, 3), (3, 3), (4, 3), (5, 3), (6, 3), (7, 3), (8, 4), (9, 3), (10, 3), (11, 3), (12, 3), (13, 4)], 14, 112, [.int .i64 0, .int .i64 0, .int .i64 0, .int .i64 0, .int .i64 0, .int .i64 0, .int .i64 0, .int .i64 0, .bool false, .int .i64 0, .int .i64 0, .int .i64 0, .int .i64 0, .bool false], some .product⟩),
  (47, ⟨.slice 51, 1, 24, [.slice none 0 0], none⟩),
  (49, ⟨.strct [(0, 41)], 14, 112, [.int .i64 0, .int .i64 0, .int .i64 0, .int .i64 0, .int .i64 0, .int .i64 0, .int .i64 0, .int .i64 0, .bool false, .int .i64 0, .int .i64 0, .int .i64 0, .int .i64 0, .bool false], none⟩),
  (51, ⟨.strct [(0, 3), (1, 3), (2, 3)], 3, 24, [.int .i64 0, .int .i64 0, .int .i64 0], some .do10⟩),
  (114, ⟨.slice 41, 1, 24, [.slice none 0 0], none⟩)]
theorem tOk_fareboxlaw10_IpeDoes : TOk Try.prog T_fareboxlaw10_IpeDoes := tOk_of (by kernel_rfl)
def sp_fareboxlaw10_IpeDoes : Spec := fun args hp => match args, hp with
  | [.agg p_cs, .slF 0], [(0, .row o_dos .do10 dos)] => (match decS .product p_cs with
    | some p => .vc (dos.length ≤ 1048576) (bv true) []
    | none => .fail "struct")
  | _, _ => .fail "fareboxlaw10_IpeDoes"
abbrev k_fareboxlaw10_IpeDoes : List (Option RK) := [none, some .do10]
def a_fareboxlaw10_IpeDoes : List SV → List (Nat × VB) → Anns := fun args hp => match args, hp with
  | [.agg p_cs, .slF 0], [(0, .row o_dos .do10 dos)] => (match decS .product p_cs with
    | some p => [(7, fun S => .inv [pOf (S.get 5)] [] [] fun ids vs rs => { cars := [.i 6 .i64, .blk (atN ids 0) [.st .product]], inv := fun ((i, (q, _), _) : Int × (Product × Unit) × Unit) => IDs dos i q, mu := fun ((i, (q, _), _) : Int × (Product × Unit) × Unit) => 300 - i.toNat })]
    | none => [])
  | _, _ => []
set_option maxHeartbeats 20000000 in
theorem ok_fareboxlaw10_IpeDoes : GOk Try.prog 11 (lift k_fareboxlaw10_IpeDoes sp_fareboxlaw10_IpeDoes) := by
  refine pf_ok (T := T_fareboxlaw10_IpeDoes) (Γ := (20, lift k_fareboxlaw10_awake sp_fareboxlaw10_awake) :: (21, lift k_fareboxref10_Right sp_fareboxref10_Right) :: (28, lift k_fareboxref10_Do sp_fareboxref10_Do) :: (29, lift k_ipe_Right sp_ipe_Right) :: (23, lift k_ipe_Thing_Ride sp_ipe_Thing_Ride) :: (24, lift k_ipe_Thing_In sp_ipe_Thing_In) :: (25, lift k_ipe_Thing_Out sp_ipe_Thing_Out) :: (26, lift k_ipe_Thing_Add sp_ipe_Thing_Add) :: (27, lift k_ipe_Thing_Block sp_ipe_Thing_Block) :: []) tOk_fareboxlaw10_IpeDoes (gOks_cons ok_fareboxlaw10_awake (gOks_cons ok_fareboxref10_Right (gOks_cons ok_fareboxref10_Do (gOks_cons ok_ipe_Right (gOks_cons ok_ipe_Thing_Ride (gOks_cons ok_ipe_Thing_In (gOks_cons ok_ipe_Thing_Out (gOks_cons ok_ipe_Thing_Add (gOks_cons ok_ipe_Thing_Block (gOks_nil _)))))))))) mixed Try.func11 (c := body Try.f11) (by kernel_rfl) (by kernel_rfl) k_fareboxlaw10_IpeDoes sp_fareboxlaw10_IpeDoes (by kernel_rfl) (by kernel_rfl) a_fareboxlaw10_IpeDoes ?_
  intro args hp s u hfit h
  unfold sp_fareboxlaw10_IpeDoes at h
  split at h
  · rename_i p_cs o_dos dos
    split at h
    case h_2 => exact h.fail.elim
    rename_i p h_p
    obtain rfl := decS_ok (k := .product) rfl h_p
    clear h_p
    change Product at p
    obtain ⟨hvc, rfl, rfl⟩ := h.vc
    clear h hfit
    change List Do10 at dos
    conv => whnf
    repeat' (first
      | (refine And.intro ?_ ?_ <;> try conv => whnf)
      | (intro hh; first | (cases hh; done) | conv => whnf))
    all_goals try first | rfl | kernel_rfl
    all_goals try simp only [decide_eq_true_eq, decide_eq_false_iff_not] at *
    all_goals try simp only [Key_eta, Share_eta, Journey_eta, Batch_eta, FieldT_eta, OpB_eta, Product_eta, Item_eta, Delta_eta, Elem_eta, Rule_eta, Do10_eta, Key_beq, Share_beq, Journey_beq, FieldT_beq, Product_beq, Item_beq, Do10_beq, toNat0, toNat1, toNat2, toNat3, toNat4, toNat5, toNat6, toNat7, toNat8, toNat9, toNat10, toNat11, toNat12, toNat13, toNat14, toNat15, toNat16, toNat17, toNat18, toNat19, iA, iOf, atS, rwA, castK, zK, true_and, and_true, decide_eq_true_eq, decide_eq_false_iff_not, beq_iff_eq, bne_iff_ne, beq_eq_false_iff_ne, bne_eq_false_iff_eq, Bool.not_eq_true', Bool.not_eq_false', Bool.not_eq_true, Bool.not_eq_false, Nat.succ_eq_add_one, Int.not_lt, Int.not_le, gt_iff_lt, ge_iff_le, show bytesS T_fareboxlaw10_IpeDoes 47 = 24 from rfl, show bytesS T_fareboxlaw10_IpeDoes 114 = 112 from rfl] at *
    all_goals try (exact Res.mk trivial)
    all_goals try (exact ⟨⟨0, Nat.zero_le _, Nat.zero_le _, rfl, by assumption⟩⟩)
    all_goals (
      have hex := ‹IDs _ _ _›
      obtain ⟨j, hj, hj3, rfl, hq⟩ := hex
      try simp only [Int.toNat_natCast] at *)
    all_goals try (refine Vc.mk ?_; first | omega | (simp only [List.length_cons, List.length_nil]; omega))
    all_goals try (with_reducible exact Vc.mk hq)
    all_goals try (refine Vc.mk ⟨hq, ?_, ?_⟩ <;> omega)
    all_goals try (
      refine ⟨⟨j + 1, by omega, by omega, by rw [wrap64] <;> omega, ?_⟩, by rw [wrap64] <;> omega⟩
      with_reducible first | exact rd_right hq ‹rdE _ _ = 0› | exact jn_right hq ‹jnE _ _ _ = 0› | exact jt_right hq ‹jtE _ _ = 0› | exact ad_right hq ‹adE _ _ = 0› | exact hq | exact bl_right hq true)
    all_goals try (
      have hk : (dos.getD j (⟨0, 0, 0⟩ : Do10)).kind = 0 := by with_reducible assumption
      try simp only [(do_at0 hk).1, (do_at0 hk).2, ne_eq, not_true_eq_false] at *)
    all_goals try (
      have hk : (dos.getD j (⟨0, 0, 0⟩ : Do10)).kind = 1 := by with_reducible assumption
      try simp only [(do_at1 hk).1, (do_at1 hk).2, ne_eq, not_true_eq_false] at *)
    all_goals try (
      have hk : (dos.getD j (⟨0, 0, 0⟩ : Do10)).kind = 2 := by with_reducible assumption
      try simp only [(do_at2 hk).1, (do_at2 hk).2, ne_eq, not_true_eq_false] at *)
    all_goals try (
      have hk : (dos.getD j (⟨0, 0, 0⟩ : Do10)).kind = 3 := by with_reducible assumption
      try simp only [(do_at3 hk).1, (do_at3 hk).2, ne_eq, not_true_eq_false] at *)
    all_goals try (
      exfalso
      with_reducible first
        | exact all_one (rd_right hq ‹rdE _ _ = 0›) ‹List.all _ _ = false›
        | exact all_one (jn_right hq ‹jnE _ _ _ = 0›) ‹List.all _ _ = false›
        | exact all_one (jt_right hq ‹jtE _ _ = 0›) ‹List.all _ _ = false›
        | exact all_one (ad_right hq ‹adE _ _ = 0›) ‹List.all _ _ = false›
        | exact all_one hq ‹List.all _ _ = false›
        | exact absurd rfl ‹_›)
    all_goals (
      exfalso
      simp only [beq_self_eq_true, Bool.and_true, Bool.and_self, Bool.not_true, Bool.true_eq_false] at *)
  · exact h.fail.elim

end Go.Proofs.Ytgajbggdamlhlaa.Sx
