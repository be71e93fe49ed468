import Derived.Test.YthbmllekbbfobaaProg
import Derived.Test.YthbmllekbbfobaaSxU
import Derived.IntWalk
import Derived.Test.YthbmllekbbfobaaR3r
/-! rules, Put -/
namespace Go.Proofs.Ythbmllekbbfobaa.Sx
open Go
set_option linter.unusedVariables false
set_option linter.unusedSimpArgs false
set_option maxRecDepth 100000

def T_rules_Set_Put : TT := [(3, ⟨.int .i64, 1, 8, [.int .i64 0], some .int⟩),
  (4, ⟨.bool, 1, 1, [.bool false], some .bool⟩),
  (27, ⟨.int .i64, 1, 8, [.int .i64 0], some .int⟩),
  (41, ⟨.slice 3, 1, 24, [.slice none 0 0], none⟩),
  (88, ⟨.strct [(0, 3), (1, 3), (2, 41)], 3, 40, [.int .i64 0, .int .i64 0, .slice none 0 0], some .rule⟩),
  (91, ⟨.ptr, 1, 8, [.pointer none], none⟩),
  (95, ⟨.slice 88, 1, 24, [.slice none 0 0], none⟩),
  (177, ⟨.strct [(0, 3), (1, 95)], 2, 32, [.int .i64 0, .slice none 0 0], none⟩),
  (180, ⟨.other, 1, 8, [.nilFunc], none⟩)]
theorem tOk_rules_Set_Put : TOk Try.prog T_rules_Set_Put := tOk_of (by kernel_rfl)
def sp_rules_Set_Put : Spec := fun args hp => match args, hp with
  | [.ptr 0 0, .slF 1], [(0, .cells [.val (.int .i64 s_ops), .slF 2]), (1, .row o_ps .rule ps), (2, .row true .rule s_rules)] => .vc (OkSet s_ops s_rules ∧ ps.length ≤ 1048576 ∧ ∀ r ∈ ps, r.weights.length ≤ 1048576 ∧ ∀ n ∈ r.weights, -9223372036854775808 ≤ n ∧ n ≤ 9223372036854775807) (iv (putRE s_ops ps)) [(0, some (.cells [iv s_ops, .slF 2000])), (2, none), (2000, some (.row true .rule (putRs s_ops s_rules ps)))]
  | _, _ => .fail "rules_Set_Put"
abbrev k_rules_Set_Put : List (Option RK) := [none, some .rule]
def a_rules_Set_Put : List SV → List (Nat × VB) → Anns := fun args hp => match args, hp with
  | [.ptr 0 0, .slF 1], [(0, .cells [.val (.int .i64 s_ops), .slF 2]), (1, .row o_ps .rule ps), (2, .row true .rule s_rules)] => [(2, fun S => .inv [] [] [] fun ids vs rs => { cars := [.i 13 .i64], inv := fun ((i, _) : Int × Unit) => IPt1 s_ops ps i, mu := fun ((i, _) : Int × Unit) => ps.length - i.toNat }),
    (8, fun S => .inv [pOf (S.get 0)] [] [] fun ids vs rs => { cars := [.i 27 .i64, .blk (atN ids 0) [.i .i64, .r true .rule]], inv := fun ((i, (o, xs, _), _) : Int × (Int × List Rule × Unit) × Unit) => IPt2 s_ops s_rules ps i o xs, mu := fun ((i, (o, xs, _), _) : Int × (Int × List Rule × Unit) × Unit) => ps.length - i.toNat })]
  | _, _ => []
set_option maxHeartbeats 20000000 in
theorem ok_rules_Set_Put : GOk Try.prog 43 (lift k_rules_Set_Put sp_rules_Set_Put) := by
  refine pf_ok (T := T_rules_Set_Put) (Γ := (99, lift k_rules_right sp_rules_right) :: (102, lift k_rules_copied sp_rules_copied) :: (100, lift k_slices_BinarySearchFunc_api_Rule_api_Rule_api_Rule sp_slices_BinarySearchFunc_api_Rule_api_Rule_api_Rule) :: (103, gcIns) :: []) tOk_rules_Set_Put (gOks_cons ok_rules_right (gOks_cons ok_rules_copied (gOks_cons ok_slices_BinarySearchFunc_api_Rule_api_Rule_api_Rule (gOks_cons ok_slices_Insert_api_Rule_api_Rule (gOks_nil _))))) mixed Try.func43 (c := body Try.f43) (by kernel_rfl) (by kernel_rfl) k_rules_Set_Put sp_rules_Set_Put (by kernel_rfl) (by kernel_rfl) a_rules_Set_Put ?_
  intro args hp s u hfit h
  unfold sp_rules_Set_Put at h
  split at h
  · rename_i s_ops o_ps ps s_rules
    obtain ⟨hvc, rfl, rfl⟩ := h.vc
    clear h hfit
    change List Rule at ps
    conv => whnf
    repeat' (first
      | (refine And.intro ?_ ?_ <;> try conv => whnf)
      | (intro hh; first | (cases hh; done) | conv => whnf))
    all_goals try first | rfl | kernel_rfl
    all_goals try simp only [decide_eq_true_eq, decide_eq_false_iff_not] at *
    all_goals try simp only [Key_eta, Share_eta, Journey_eta, Batch_eta, FieldT_eta, OpB_eta, Product_eta, Item_eta, Delta_eta, Elem_eta, Rule_eta, Do10_eta, Ask_eta, Key_beq, Share_beq, Journey_beq, FieldT_beq, Product_beq, Item_beq, Do10_beq, Ask_beq, toNat0, toNat1, toNat2, toNat3, toNat4, toNat5, toNat6, toNat7, toNat8, toNat9, toNat10, toNat11, toNat12, toNat13, toNat14, toNat15, toNat16, toNat17, toNat18, toNat19, iA, iOf, atS, rwA, castK, zK, true_and, and_true, decide_eq_true_eq, decide_eq_false_iff_not, beq_iff_eq, bne_iff_ne, beq_eq_false_iff_ne, bne_eq_false_iff_eq, Bool.not_eq_true', Bool.not_eq_false', Bool.not_eq_true, Bool.not_eq_false, Nat.succ_eq_add_one, Int.not_lt, Int.not_le, gt_iff_lt, ge_iff_le, show bytesS T_rules_Set_Put 41 = 8 from rfl, show bytesS T_rules_Set_Put 95 = 40 from rfl] at *
    all_goals obtain ⟨hO, hL, hW⟩ := hvc
    all_goals try (
      have hex := ‹IPt1 _ _ _›
      obtain ⟨j, hj, rfl, ha⟩ := hex)
    all_goals try (
      have hex := ‹IPt2 _ _ _ _ _ _›
      obtain ⟨k, hk, rfl, rfl, hb, hd⟩ := hex
      try subst hd
      have hP := puts_ok (rs := ps.take k) hO (fun r hr => hb r (List.mem_of_mem_take hr))
      have hl := okset_len hP)
    all_goals try simp only [Int.toNat_natCast] at *
    all_goals try (
      have hw := hW _ (mem_getD (d := (⟨0, 0, []⟩ : Rule)) (show j < ps.length by omega)))
    all_goals try (
      have hw := hW _ (mem_getD (d := (⟨0, 0, []⟩ : Rule)) (show k < ps.length by omega)))
    all_goals try (
      have hh := has_pos hP.srt ‹hasR _ _ = true›)
    all_goals try (
      have hpl := posR_le ((ps.take k).foldl putR s_rules) (ps.getD k ⟨0, 0, []⟩))
    all_goals try (refine Vc.mk ?_; first | omega | exact hw | exact hw.1 | exact ⟨by omega, hP.srt⟩ | exact ⟨by omega, by omega, rfl, by omega⟩)
    · exact ⟨⟨0, Nat.zero_le _, rfl, by simp⟩⟩
    · have hall : ps.all (fun r => rightR r s_ops) = false := List.all_eq_false.2 ⟨_, mem_getD (d := (⟨0, 0, []⟩ : Rule)) (show j < ps.length by omega), by simp_all⟩
      refine Res.mk ⟨?_, ?_⟩
      · rw [putRs, hall]; rfl
      · rw [putRE, hall]; rfl
    · refine ⟨⟨j + 1, by omega, by rw [wrap64] <;> omega, fun r hr => ?_⟩, by rw [wrap64] <;> omega⟩
      rw [take_getD (d := (⟨0, 0, []⟩ : Rule)) (by omega), List.mem_append, List.mem_singleton] at hr
      rcases hr with hr | rfl
      · exact ha r hr
      · assumption
    · rw [List.take_of_length_le (by omega)] at ha
      exact ⟨⟨0, Nat.zero_le _, rfl, rfl, ha, rfl⟩⟩
    · refine ⟨⟨k + 1, by omega, by rw [wrap64] <;> omega, rfl, hb, ?_⟩, by rw [wrap64] <;> omega⟩
      rw [fold_snoc (by omega), putR, if_pos (by assumption)]
    · refine ⟨⟨k + 1, by omega, by rw [wrap64] <;> omega, rfl, hb, ?_⟩, by rw [wrap64] <;> omega⟩
      rw [fold_snoc (by omega), putR, if_neg (by simp_all)]
    · have hall : ps.all (fun r => rightR r _) = true := List.all_eq_true.2 hb
      refine Res.mk ⟨?_, trivial, ?_⟩
      · rw [putRs, hall, if_pos rfl, List.take_of_length_le (by omega)]
      · rw [putRE, hall]; rfl
  · exact h.fail.elim

end Go.Proofs.Ythbmllekbbfobaa.Sx
