import Derived.Test.YtgajbggdamlhlaaProg
import Derived.Test.YtgajbggdamlhlaaSxU
import Derived.IntWalk
import Derived.Test.YtgajbggdamlhlaaI10c2
/-! ipe, laws -/
namespace Go.Proofs.Ytgajbggdamlhlaa.Sx
open Go
set_option linter.unusedVariables false
set_option linter.unusedSimpArgs false
set_option maxRecDepth 100000

def T_fareboxlaw10_IpeCounts : TT := [(3, ⟨.int .i64, 1, 8, [.int .i64 0], some .int⟩),
  (4, ⟨.bool, 1, 1, [.bool false], some .bool⟩),
  (24, ⟨.int .i64, 1, 8, [.int .i64 0], some .int⟩),
  (39, ⟨.int .i64, 1, 8, [.int .i64 0], some .int⟩),
  (41, ⟨.strct [(0, 39), (1, 3), (2, 3), (3, 3), (4, 3), (5, 3), (6, 3), (7, 3), (8, 4), (9, 3), (10, 3), (11, 3), (12, 3), (13, 4)], 14, 112, [.int .i64 0, .int .i64 0, .int .i64 0, .int .i64 0, .int .i64 0, .int .i64 0, .int .i64 0, .int .i64 0, .bool false, .int .i64 0, .int .i64 0, .int .i64 0, .int .i64 0, .bool false], some .product⟩),
  (47, ⟨.slice 51, 1, 24, [.slice none 0 0], none⟩),
  (49, ⟨.strct [(0, 41)], 14, 112, [.int .i64 0, .int .i64 0, .int .i64 0, .int .i64 0, .int .i64 0, .int .i64 0, .int .i64 0, .int .i64 0, .bool false, .int .i64 0, .int .i64 0, .int .i64 0, .int .i64 0, .bool false], none⟩),
  (51, ⟨.strct [(0, 3), (1, 3), (2, 3)], 3, 24, [.int .i64 0, .int .i64 0, .int .i64 0], some .do10⟩)]
theorem tOk_fareboxlaw10_IpeCounts : TOk Try.prog T_fareboxlaw10_IpeCounts := tOk_of (by kernel_rfl)
def sp_fareboxlaw10_IpeCounts : Spec := fun args hp => match args, hp with
  | [.agg p_cs, .slF 0], [(0, .row o_dos .do10 dos)] => (match decS .product p_cs with
    | some p => .vc (dos.length ≤ 1048576) (bv true) []
    | none => .fail "struct")
  | _, _ => .fail "fareboxlaw10_IpeCounts"
abbrev k_fareboxlaw10_IpeCounts : List (Option RK) := [none, some .do10]
def a_fareboxlaw10_IpeCounts : List SV → List (Nat × VB) → Anns := fun args hp => match args, hp with
  | [.agg p_cs, .slF 0], [(0, .row o_dos .do10 dos)] => (match decS .product p_cs with
    | some p => [(5, fun S => .inv [pOf (S.get 5)] [] [] fun ids vs rs => { cars := [.i 6 .i64, .blk (atN ids 0) [.st .product]], inv := fun ((i, (q, _), _) : Int × (Product × Unit) × Unit) => ICn dos i q, mu := fun ((i, (q, _), _) : Int × (Product × Unit) × Unit) => 200 - i.toNat })]
    | none => [])
  | _, _ => []
set_option maxHeartbeats 20000000 in
theorem ok_fareboxlaw10_IpeCounts : GOk Try.prog 10 (lift k_fareboxlaw10_IpeCounts sp_fareboxlaw10_IpeCounts) := by
  refine pf_ok (T := T_fareboxlaw10_IpeCounts) (Γ := (20, lift k_fareboxlaw10_awake sp_fareboxlaw10_awake) :: (21, lift k_fareboxref10_Right sp_fareboxref10_Right) :: (23, lift k_ipe_Thing_Ride sp_ipe_Thing_Ride) :: (24, lift k_ipe_Thing_In sp_ipe_Thing_In) :: (25, lift k_ipe_Thing_Out sp_ipe_Thing_Out) :: (26, lift k_ipe_Thing_Add sp_ipe_Thing_Add) :: (27, lift k_ipe_Thing_Block sp_ipe_Thing_Block) :: []) tOk_fareboxlaw10_IpeCounts (gOks_cons ok_fareboxlaw10_awake (gOks_cons ok_fareboxref10_Right (gOks_cons ok_ipe_Thing_Ride (gOks_cons ok_ipe_Thing_In (gOks_cons ok_ipe_Thing_Out (gOks_cons ok_ipe_Thing_Add (gOks_cons ok_ipe_Thing_Block (gOks_nil _)))))))) mixed Try.func10 (c := body Try.f10) (by kernel_rfl) (by kernel_rfl) k_fareboxlaw10_IpeCounts sp_fareboxlaw10_IpeCounts (by kernel_rfl) (by kernel_rfl) a_fareboxlaw10_IpeCounts ?_
  intro args hp s u hfit h
  unfold sp_fareboxlaw10_IpeCounts at h
  split at h
  · rename_i p_cs o_dos dos
    split at h
    case h_2 => exact h.fail.elim
    rename_i p h_p
    obtain rfl := decS_ok (k := .product) rfl h_p
    clear h_p
    change Product at p
    obtain ⟨hvc, rfl, rfl⟩ := h.vc
    clear h hfit
    change List Do10 at dos
    conv => whnf
    repeat' (first
      | (refine And.intro ?_ ?_ <;> try conv => whnf)
      | (intro hh; first | (cases hh; done) | conv => whnf))
    all_goals try first | rfl | kernel_rfl
    all_goals try simp only [decide_eq_true_eq, decide_eq_false_iff_not] at *
    all_goals try simp only [Key_eta, Share_eta, Journey_eta, Batch_eta, FieldT_eta, OpB_eta, Product_eta, Item_eta, Delta_eta, Elem_eta, Rule_eta, Do10_eta, Key_beq, Share_beq, Journey_beq, FieldT_beq, Product_beq, Item_beq, Do10_beq, toNat0, toNat1, toNat2, toNat3, toNat4, toNat5, toNat6, toNat7, toNat8, toNat9, toNat10, toNat11, toNat12, toNat13, toNat14, toNat15, toNat16, toNat17, toNat18, toNat19, iA, iOf, atS, rwA, castK, zK, true_and, and_true, decide_eq_true_eq, decide_eq_false_iff_not, beq_iff_eq, bne_iff_ne, beq_eq_false_iff_ne, bne_eq_false_iff_eq, Bool.not_eq_true', Bool.not_eq_false', Bool.not_eq_true, Bool.not_eq_false, Nat.succ_eq_add_one, Int.not_lt, Int.not_le, gt_iff_lt, ge_iff_le, show bytesS T_fareboxlaw10_IpeCounts 47 = 24 from rfl] at *
    all_goals try (exact Res.mk trivial)
    all_goals try (exact ⟨⟨0, _, Nat.zero_le _, Nat.zero_le _, rfl, by assumption, trivial, rfl⟩⟩)
    all_goals (
      have hex := ‹ICn _ _ _›
      obtain ⟨j, r, hj, hj3, rfl, hq, _, rfl⟩ := hex
      try simp only [Int.toNat_natCast] at *)
    all_goals try (refine Vc.mk ?_; omega)
    all_goals try (with_reducible exact Vc.mk hq)
    all_goals try (exact Vc.mk (bl_right hq true))
    all_goals try (exact Res.mk trivial)
    all_goals generalize dos.getD j (⟨0, 0, 0⟩ : Do10) = d at *
    all_goals have hR := (right_iff.1 hq).txn
    all_goals have w4 : IntKind.i64.wrap (r.txn + 1) = r.txn + 1 := wrap64 (by omega) (by omega)
    all_goals try simp only [w4] at *
    all_goals try (
      have h0 : rdE r d.a = 0 := by with_reducible assumption
      have hr := rd_right hq h0
      have hv := rd_val hq h0
      have hbk := hv.2.2.2.2.2.2.2.2.2.2)
    all_goals try (
      have h0 : rdE r d.a ≠ 0 := by with_reducible assumption
      have hz : rdP r d.a = zP := if_neg h0
      exfalso
      simp only [hz, zP, beq_self_eq_true, Bool.and_self, Bool.and_true, Bool.true_eq_false] at *
      done)
    all_goals try (
      have h0 : jnE r d.a d.b = 0 := by with_reducible assumption
      have hr := jn_right hq h0
      have hv := jn_val hq h0
      have hbk := hv.2.2.2.2.2.2.2.2.2.2)
    all_goals try (
      have h0 : jnE r d.a d.b ≠ 0 := by with_reducible assumption
      have hz : jnP r d.a d.b = zP := if_neg h0
      exfalso
      simp only [hz, zP, beq_self_eq_true, Bool.and_self, Bool.and_true, Bool.true_eq_false] at *
      done)
    all_goals try (
      have h0 : jtE r d.a = 0 := by with_reducible assumption
      have hr := jt_right hq h0
      have hv := jt_val hq h0
      have hbk := hv.2.2.2.2.2.2.2.2.2.2.1)
    all_goals try (
      have h0 : jtE r d.a ≠ 0 := by with_reducible assumption
      have hz : jtP r d.a = zP := if_neg h0
      exfalso
      simp only [hz, zP, beq_self_eq_true, Bool.and_self, Bool.and_true, Bool.true_eq_false] at *
      done)
    all_goals try (
      have h0 : adE r d.a = 0 := by with_reducible assumption
      have hr := ad_right hq h0
      have hv := ad_val hq h0
      have hbk := hv.2.2.2.2.2.2.2.2.2.2.1)
    all_goals try (
      have h0 : adE r d.a ≠ 0 := by with_reducible assumption
      have hz : adP r d.a = zP := if_neg h0
      exfalso
      simp only [hz, zP, beq_self_eq_true, Bool.and_self, Bool.and_true, Bool.true_eq_false] at *
      done)
    all_goals try (exfalso; omega)
    all_goals try (
      refine ⟨⟨j + 1, _, by omega, by omega, by rw [wrap64] <;> omega, ?_, trivial, rfl⟩, by rw [wrap64] <;> omega⟩
      with_reducible assumption)
    all_goals try (
      exfalso
      have hbt := ‹Product.blocked _ = true›
      rw [hbk] at hbt
      cases hbt)
    all_goals trace_state
    all_goals sorry
  · exact h.fail.elim

end Go.Proofs.Ytgajbggdamlhlaa.Sx
