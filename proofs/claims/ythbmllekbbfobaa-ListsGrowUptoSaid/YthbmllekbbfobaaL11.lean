import Derived.Test.YthbmllekbbfobaaProg
import Derived.Test.YthbmllekbbfobaaSxU
import Derived.IntWalk
import Derived.RangeFuncBox
import Derived.RangeFuncLeaves
import Derived.Shelf.Abstract
import Derived.WalkKit
import Derived.OwnWalkIn
import Derived.TacticsInMore
import Derived.LoopNIn
import Derived.LoopIn
import Derived.Test.YthbmllekbbfobaaL11c0
/-! lists, For -/
namespace Go.Proofs.Ythbmllekbbfobaa.Sx
open Go
set_option linter.unusedVariables false
set_option linter.unusedSimpArgs false
set_option maxRecDepth 100000

def T_slices_CompactFunc_api_Item_api_Item : TT := [(3, ⟨.int .i64, 1, 8, [.int .i64 0], some .int⟩),
  (4, ⟨.bool, 1, 1, [.bool false], some .bool⟩),
  (22, ⟨.slice 52, 1, 24, [.slice none 0 0], none⟩),
  (52, ⟨.strct [(0, 3), (1, 3), (2, 3), (3, 3), (4, 3)], 5, 40, [.int .i64 0, .int .i64 0, .int .i64 0, .int .i64 0, .int .i64 0], some .item⟩),
  (173, ⟨.other, 1, 8, [.nilFunc], none⟩)]
theorem tOk_slices_CompactFunc_api_Item_api_Item : TOk Try.prog T_slices_CompactFunc_api_Item_api_Item := tOk_of (by kernel_rfl)
def sp_slices_CompactFunc_api_Item_api_Item : Spec := fun args hp => match args, hp with
  | [.slF 0, .fn (.func 96) [] []], [(0, .row true .item s)] => .vc (s.length ≤ 4096) (.slP 0 0 (cmpct s).length) [(0, some (.row true .item (cmpct s ++ List.replicate (s.length - (cmpct s).length) zIt)))]
  | _, _ => .fail "slices_CompactFunc_api_Item_api_Item"
abbrev k_slices_CompactFunc_api_Item_api_Item : List (Option RK) := [some .item, none]
def a_slices_CompactFunc_api_Item_api_Item : List SV → List (Nat × VB) → Anns := fun args hp => match args, hp with
  | [.slF 0, .fn (.func 96) [] []], [(0, .row true .item s)] => [(4, fun S => .inv [] [] [] fun ids vs rs => { cars := [.i 5 .i64], inv := fun ((i, _) : Int × Unit) => ICm s i, mu := fun ((i, _) : Int × Unit) => s.length - i.toNat }),
    (9, fun S => .inv [pOf (S.get 0)] [S.get 5] [] fun ids vs rs => { cars := [.i 5 .i64, .i 7 .i64, .row (atN ids 0) true .item], inv := fun ((i, j, xs, _) : Int × Int × List Item × Unit) => ICc s ((iA vs 0)).toNat i j xs, mu := fun ((i, j, xs, _) : Int × Int × List Item × Unit) => s.length - j.toNat })]
  | _, _ => []
set_option maxHeartbeats 20000000 in
theorem ok_slices_CompactFunc_api_Item_api_Item : GOk Try.prog 95 (lift k_slices_CompactFunc_api_Item_api_Item sp_slices_CompactFunc_api_Item_api_Item) := by
  refine pf_ok (T := T_slices_CompactFunc_api_Item_api_Item) (Γ := (96, lift k_lists_Act_For_2 sp_lists_Act_For_2) :: []) tOk_slices_CompactFunc_api_Item_api_Item (gOks_cons ok_lists_Act_For_2 (gOks_nil _)) mixed Try.func95 (c := body Try.f95) (by kernel_rfl) (by kernel_rfl) k_slices_CompactFunc_api_Item_api_Item sp_slices_CompactFunc_api_Item_api_Item (by kernel_rfl) (by kernel_rfl) a_slices_CompactFunc_api_Item_api_Item ?_
  intro args hp s u hfit h
  unfold sp_slices_CompactFunc_api_Item_api_Item at h
  split at h
  · rename_i s
    obtain ⟨hvc, rfl, rfl⟩ := h.vc
    clear h hfit
    change List Item at s
    conv => whnf
    repeat' (first
      | (refine And.intro ?_ ?_ <;> try conv => whnf)
      | (intro hh; first | (cases hh; done) | conv => whnf))
    all_goals try first | rfl | kernel_rfl
    all_goals try simp only [decide_eq_true_eq, decide_eq_false_iff_not] at *
    all_goals try simp only [Key_eta, Share_eta, Journey_eta, Batch_eta, FieldT_eta, OpB_eta, Product_eta, Item_eta, Delta_eta, Elem_eta, Rule_eta, Do10_eta, Ask_eta, Key_beq, Share_beq, Journey_beq, FieldT_beq, Product_beq, Item_beq, Do10_beq, Ask_beq, toNat0, toNat1, toNat2, toNat3, toNat4, toNat5, toNat6, toNat7, toNat8, toNat9, toNat10, toNat11, toNat12, toNat13, toNat14, toNat15, toNat16, toNat17, toNat18, toNat19, iA, iOf, atS, rwA, castK, zK, true_and, and_true, decide_eq_true_eq, decide_eq_false_iff_not, beq_iff_eq, bne_iff_ne, beq_eq_false_iff_ne, bne_eq_false_iff_eq, Bool.not_eq_true', Bool.not_eq_false', Bool.not_eq_true, Bool.not_eq_false, Nat.succ_eq_add_one, Int.not_lt, Int.not_le, gt_iff_lt, ge_iff_le, show bytesS T_slices_CompactFunc_api_Item_api_Item 22 = 40 from rfl] at *
    all_goals try (
      have z := ‹ICm _ _›
      obtain ⟨j, rfl, j1, j2, j3⟩ := z)
    all_goals try simp only [Int.toNat_natCast] at *
    all_goals try (
      have z := ‹ICc _ _ _ _ _›
      obtain ⟨q, rfl, q1, q2, rfl, q3, rfl⟩ := z
      have hlen : (cmpct (s.take (j + q)) ++ s.drop (cmpct (s.take (j + q))).length).length = s.length := by rw [List.length_append, List.length_drop]; omega
      have hge : ∀ c, (cmpct (s.take (j + q))).length ≤ c → c < s.length → (cmpct (s.take (j + q)) ++ s.drop (cmpct (s.take (j + q))).length).getD c zIt = s.getD c zIt := fun c h1 h2 => by rw [getD_app, if_neg (by omega), getD_dr]; congr 1; omega
      have hw1 : IntKind.i64.wrap ((q : Int) + 1) = ((q + 1 : Nat) : Int) := by rw [wrap64 (by omega) (by omega)]; omega
      have hw2 : IntKind.i64.wrap ((q : Int) - 1) = ((q - 1 : Nat) : Int) := by rw [wrap64 (by omega) (by omega)]; omega
      have hw3 : ((j : Int) + ((q - 1 : Nat) : Int)).toNat = j + q - 1 := by omega
      have hw4 : ((j : Int) + (q : Int)).toNat = j + q := by omega
      try simp only [hw1, hw2, hw3, hw4, Int.toNat_natCast] at *)
    all_goals try simp only [Int.toNat_natCast] at *
    all_goals try (refine Vc.mk ?_; (try rw [wrap64 (by omega) (by omega)]); first | omega | (simp only [splice_length', List.length_replicate]; omega))
    · refine Res.mk (cm_id fun c c1 c2 => ?_)
      omega
    · exact ⟨⟨1, rfl, Nat.le_refl _, .inr rfl, fun c c1 c2 => by omega⟩⟩
    · have hw : IntKind.i64.wrap ((j : Int) - 1) = ((j - 1 : Nat) : Int) := by rw [wrap64 (by omega) (by omega)]; omega
      simp only [hw, Int.toNat_natCast] at *
      exact ⟨cm_start j1 (by omega) j3 (by first | assumption | exact of_decide_eq_true ‹_›)⟩
    · have hn : decide _ = false := ‹decide (Item.number _ = Item.number _) = false›
      have hn := of_decide_eq_false hn
      rw [hge _ (by omega) (by omega), hge _ (by omega) (by omega)] at hn
      rw [wrap64 (by omega) (by omega), hge _ (by omega) (by omega)]
      exact ⟨cm_new q1 (by omega) q3 hn, by omega⟩
    · have hn : decide _ = true := ‹decide (Item.number _ = Item.number _) = true›
      have hn := of_decide_eq_true hn
      rw [hge _ (by omega) (by omega), hge _ (by omega) (by omega)] at hn
      exact ⟨cm_old q1 (by omega) q3 hn, by omega⟩
    · have hjq : j + q = s.length := by omega
      rw [hjq, List.take_of_length_le (Nat.le_refl _)]
      exact Res.mk ⟨cm_end (cmpct_len s), Nat.sub_zero _⟩
    · have hw : IntKind.i64.wrap ((j : Int) - 1) = ((j - 1 : Nat) : Int) := by rw [wrap64 (by omega) (by omega)]; omega
      simp only [hw, Int.toNat_natCast] at *
      rw [wrap64 (by omega) (by omega)]
      refine ⟨⟨j + 1, by omega, by omega, .inl (by omega), fun c c1 c2 => ?_⟩, by omega⟩
      rcases Nat.lt_or_ge c j with h | h
      · exact j3 c c1 h
      · obtain rfl : c = j := by omega
        first | assumption | exact of_decide_eq_false ‹_›
    · refine Res.mk (cm_id fun c c1 c2 => j3 c c1 (by omega))
  · exact h.fail.elim

section
open Go.RowKit Go.Shelf
attribute [local go_sem] Oper.semAt_some
set_option maxHeartbeats 4000000 in
theorem walk_slices_Values_api_Item_api_Item_1 : ValuesWalk Try.prog 134 .item true := by
  intro l Bs b off cap ys J Jx hmx hJ hG hY W h0
  refine callsIn_of_wp Try.func134 rfl trivial ?_ rfl
  simp only [Try.ntmps134, List.size_toArray, List.length_cons, List.length_nil, Nat.reduceAdd, Nat.reduceSub, Array.replicate_succ, Array.replicate_zero, List.push_toArray, List.append_toArray, List.nil_append, List.cons_append]
  have hBs := (hJ 0 W h0).1
  gi_wp2
  gi_loopw [7] (fun i wr => ∃ k : Nat, k ≤ ys.length ∧ i = .int .i64 k ∧ J k wr) (fun i _ => ys.length - (intOf i).toNat)
  case atStart => exact ⟨0, Nat.zero_le _, rfl, h0⟩
  case round =>
    obtain ⟨k, hk, rfl, hJs⟩ := hrel
    by_cases hlt : k < ys.length
    · skip
      have hc0 : wr.cell? ⟨b, off + k * 5, none⟩ = some (.int .i64 ((ys.getD k (zK .item)).card)) := (hJ k wr hJs).2 k 0 _ hlt rfl
      have hc1 : wr.cell? ⟨b, off + k * 5 + 1, none⟩ = some (.int .i64 ((ys.getD k (zK .item)).owner)) := (hJ k wr hJs).2 k 1 _ hlt rfl
      have hc2 : wr.cell? ⟨b, off + k * 5 + 2, none⟩ = some (.int .i64 ((ys.getD k (zK .item)).id)) := (hJ k wr hJs).2 k 2 _ hlt rfl
      have hc3 : wr.cell? ⟨b, off + k * 5 + 3, none⟩ = some (.int .i64 ((ys.getD k (zK .item)).number)) := (hJ k wr hJs).2 k 3 _ hlt rfl
      have hc4 : wr.cell? ⟨b, off + k * 5 + 4, none⟩ = some (.int .i64 ((ys.getD k (zK .item)).amount)) := (hJ k wr hJs).2 k 4 _ hlt rfl
      obtain ⟨fn, tmps, assign, body, hy, hR⟩ := hY k _ hlt (hG k wr (wr.alloc (.cells #[.int .i64 ((ys.getD k (zK .item)).card), .int .i64 ((ys.getD k (zK .item)).owner), .int .i64 ((ys.getD k (zK .item)).id), .int .i64 ((ys.getD k (zK .item)).number), .int .i64 ((ys.getD k (zK .item)).amount)] 52)) hJs (turns_alloc _ _ _))
      replace hy : (Instr.yield l #[.agg #[.int .i64 ((ys.getD k (zK .item)).card), .int .i64 ((ys.getD k (zK .item)).owner), .int .i64 ((ys.getD k (zK .item)).id), .int .i64 ((ys.getD k (zK .item)).number), .int .i64 ((ys.getD k (zK .item)).amount)]]).run Try.prog (wr.alloc (.cells #[.int .i64 ((ys.getD k (zK .item)).card), .int .i64 ((ys.getD k (zK .item)).owner), .int .i64 ((ys.getD k (zK .item)).id), .int .i64 ((ys.getD k (zK .item)).number), .int .i64 ((ys.getD k (zK .item)).amount)] 52)) = .ok (.round l fn tmps assign body) (wr.alloc (.cells #[.int .i64 ((ys.getD k (zK .item)).card), .int .i64 ((ys.getD k (zK .item)).owner), .int .i64 ((ys.getD k (zK .item)).id), .int .i64 ((ys.getD k (zK .item)).number), .int .i64 ((ys.getD k (zK .item)).amount)] 52)) := hy
      generalize (ys.getD k (zK .item)).card = v0 at hc0 hy hR
      generalize (ys.getD k (zK .item)).owner = v1 at hc1 hy hR
      generalize (ys.getD k (zK .item)).id = v2 at hc2 hy hR
      generalize (ys.getD k (zK .item)).number = v3 at hc3 hy hR
      generalize (ys.getD k (zK .item)).amount = v4 at hc4 hy hR
      gi_wp2
      refine ⟨rfl, hR.mono ?_⟩
      rintro e W3 (⟨rfl, hJ3⟩ | ⟨rfl, hJx3⟩)
      · gi_wp2
        go_roundw
        case rel => exact ⟨k + 1, by omega, by simp, hJ3⟩
        case measure => simp [intOf]; omega
      · gi_wp2
        refine bodyPost_ret (results_none rfl _ _ _) rfl ?_
        exact ⟨⟨_, rfl⟩, .inr hJx3⟩
    · obtain rfl : k = ys.length := by omega
      gi_wp2
      go_end0
      exact ⟨⟨_, rfl⟩, .inl hJs⟩
set_option maxHeartbeats 4000000 in
theorem nil_slices_Values_api_Item_api_Item_1 : ValuesNil Try.prog 134 := by
  intro l Bs c a J hJ W h0
  refine callsIn_of_wp Try.func134 rfl trivial ?_ rfl
  simp only [Try.ntmps134, List.size_toArray, List.length_cons, List.length_nil, Nat.reduceAdd, Nat.reduceSub, Array.replicate_succ, Array.replicate_zero, List.push_toArray, List.append_toArray, List.nil_append, List.cons_append]
  have hBs := hJ W h0
  gi_wp2
  gi_loopw [7] (fun i wr => i = .int .i64 0 ∧ J wr) (fun _ _ => 0)
  case atStart => exact ⟨rfl, h0⟩
  case round =>
    obtain ⟨rfl, hJs⟩ := hrel
    gi_wp2
    go_end0
    exact ⟨⟨_, rfl⟩, hJs⟩
end
theorem ok_slices_Values_api_Item_api_Item_1 : GOk Try.prog 134 (itValues .item true) := itValues_ok Try.func134 (by kernel_rfl) rfl true .item (fun _ => rfl) walk_slices_Values_api_Item_api_Item_1 nil_slices_Values_api_Item_api_Item_1

def T_slices_Values_api_Item_api_Item : TT := [(3, ⟨.int .i64, 1, 8, [.int .i64 0], some .int⟩),
  (22, ⟨.slice 52, 1, 24, [.slice none 0 0], none⟩),
  (52, ⟨.strct [(0, 3), (1, 3), (2, 3), (3, 3), (4, 3)], 5, 40, [.int .i64 0, .int .i64 0, .int .i64 0, .int .i64 0, .int .i64 0], some .item⟩),
  (75, ⟨.other, 1, 8, [.nilFunc], none⟩),
  (76, ⟨.other, 1, 8, [.nilFunc], none⟩)]
theorem tOk_slices_Values_api_Item_api_Item : TOk Try.prog T_slices_Values_api_Item_api_Item := tOk_of (by kernel_rfl)
def sp_slices_Values_api_Item_api_Item : Spec := fun args hp => match args, hp with
  | [.slP 0 s_i s_n], [(0, .row o_s .item s)] => .ok (.fn (.func 134) [] [.ptr 2000 0]) [(2000, some (.cells [.slP 0 s_i s_n]))]
  | _, _ => .fail "slices_Values_api_Item_api_Item"
abbrev k_slices_Values_api_Item_api_Item : List (Option RK) := [some .item]
def a_slices_Values_api_Item_api_Item : List SV → List (Nat × VB) → Anns := fun _ _ => []
set_option maxHeartbeats 20000000 in
theorem ok_slices_Values_api_Item_api_Item : GOk Try.prog 94 (lift k_slices_Values_api_Item_api_Item sp_slices_Values_api_Item_api_Item) := by
  refine pf_ok (T := T_slices_Values_api_Item_api_Item) (Γ := []) tOk_slices_Values_api_Item_api_Item (gOks_nil _) mixed Try.func94 (c := body Try.f94) (by kernel_rfl) (by kernel_rfl) k_slices_Values_api_Item_api_Item sp_slices_Values_api_Item_api_Item (by kernel_rfl) (by kernel_rfl) a_slices_Values_api_Item_api_Item ?_
  intro args hp s u hfit h
  unfold sp_slices_Values_api_Item_api_Item at h
  split at h
  · rename_i s_i s_n o_s s
    obtain ⟨rfl, rfl⟩ := h.ok
    clear h
    change List Item at s
    conv => whnf
    repeat' (first
      | (refine And.intro ?_ ?_ <;> try conv => whnf)
      | (intro hh; first | (cases hh; done) | conv => whnf))
    all_goals try first | rfl | kernel_rfl
    all_goals try simp only [decide_eq_true_eq, decide_eq_false_iff_not] at *
    all_goals try simp only [Key_eta, Share_eta, Journey_eta, Batch_eta, FieldT_eta, OpB_eta, Product_eta, Item_eta, Delta_eta, Elem_eta, Rule_eta, Do10_eta, Ask_eta, Key_beq, Share_beq, Journey_beq, FieldT_beq, Product_beq, Item_beq, Do10_beq, Ask_beq, toNat0, toNat1, toNat2, toNat3, toNat4, toNat5, toNat6, toNat7, toNat8, toNat9, toNat10, toNat11, toNat12, toNat13, toNat14, toNat15, toNat16, toNat17, toNat18, toNat19, iA, iOf, atS, rwA, castK, zK, true_and, and_true, decide_eq_true_eq, decide_eq_false_iff_not, beq_iff_eq, bne_iff_ne, beq_eq_false_iff_ne, bne_eq_false_iff_eq, Bool.not_eq_true', Bool.not_eq_false', Bool.not_eq_true, Bool.not_eq_false, Nat.succ_eq_add_one, Int.not_lt, Int.not_le, gt_iff_lt, ge_iff_le, show bytesS T_slices_Values_api_Item_api_Item 22 = 40 from rfl] at *
    all_goals exact Res.mk trivial
  · exact h.fail.elim

end Go.Proofs.Ythbmllekbbfobaa.Sx
