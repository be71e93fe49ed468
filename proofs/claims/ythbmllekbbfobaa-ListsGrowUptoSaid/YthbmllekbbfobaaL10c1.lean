import Derived.Test.YthbmllekbbfobaaProg
import Derived.Test.YthbmllekbbfobaaSxU
import Derived.IntWalk
import Derived.Test.YthbmllekbbfobaaL10c0
/-! lists, stable sorting -/
namespace Go.Proofs.Ythbmllekbbfobaa.Sx
open Go
set_option linter.unusedVariables false
set_option linter.unusedSimpArgs false
set_option maxRecDepth 100000

def T_slices_insertionSortCmpFunc_api_Item : TT := [(3, ⟨.int .i64, 1, 8, [.int .i64 0], some .int⟩),
  (4, ⟨.bool, 1, 1, [.bool false], some .bool⟩),
  (22, ⟨.slice 52, 1, 24, [.slice none 0 0], none⟩),
  (52, ⟨.strct [(0, 3), (1, 3), (2, 3), (3, 3), (4, 3)], 5, 40, [.int .i64 0, .int .i64 0, .int .i64 0, .int .i64 0, .int .i64 0], some .item⟩),
  (170, ⟨.other, 1, 8, [.nilFunc], none⟩)]
theorem tOk_slices_insertionSortCmpFunc_api_Item : TOk Try.prog T_slices_insertionSortCmpFunc_api_Item := tOk_of (by kernel_rfl)
def sp_slices_insertionSortCmpFunc_api_Item : Spec := fun args hp => match args, hp with
  | [.slF 0, .val (.int .i64 a), .val (.int .i64 b), .fn (.func 92) [] []], [(0, .row true .item data)] => .vc (0 ≤ a ∧ a ≤ b ∧ b ≤ data.length ∧ data.length ≤ 4096) (.tup []) [(0, some (.row true .item (insS Item.number data a.toNat b.toNat)))]
  | _, _ => .fail "slices_insertionSortCmpFunc_api_Item"
abbrev k_slices_insertionSortCmpFunc_api_Item : List (Option RK) := [some .item, none, none, none]
def a_slices_insertionSortCmpFunc_api_Item : List SV → List (Nat × VB) → Anns := fun args hp => match args, hp with
  | [.slF 0, .val (.int .i64 a), .val (.int .i64 b), .fn (.func 92) [] []], [(0, .row true .item data)] => [(1, fun S => .inv [pOf (S.get 0)] [] [] fun ids vs rs => { cars := [.i 8 .i64, .row (atN ids 0) true .item], inv := fun ((i, xs, _) : Int × List Item × Unit) => II1 data a b i xs, mu := fun ((i, xs, _) : Int × List Item × Unit) => b.toNat - i.toNat }),
    (4, fun S => .inv [pOf (S.get 0)] [S.get 8] [] fun ids vs rs => { cars := [.i 9 .i64, .row (atN ids 0) true .item], inv := fun ((j, xs, _) : Int × List Item × Unit) => II2 (insS Item.number data a.toNat ((iA vs 0)).toNat) a ((iA vs 0)) j xs, mu := fun ((j, xs, _) : Int × List Item × Unit) => j.toNat })]
  | _, _ => []
set_option maxHeartbeats 20000000 in
theorem ok_slices_insertionSortCmpFunc_api_Item : GOk Try.prog 151 (lift k_slices_insertionSortCmpFunc_api_Item sp_slices_insertionSortCmpFunc_api_Item) := by
  refine pf_ok (T := T_slices_insertionSortCmpFunc_api_Item) (Γ := (92, lift k_lists_Act_For_1 sp_lists_Act_For_1) :: []) tOk_slices_insertionSortCmpFunc_api_Item (gOks_cons ok_lists_Act_For_1 (gOks_nil _)) mixed Try.func151 (c := body Try.f151) (by kernel_rfl) (by kernel_rfl) k_slices_insertionSortCmpFunc_api_Item sp_slices_insertionSortCmpFunc_api_Item (by kernel_rfl) (by kernel_rfl) a_slices_insertionSortCmpFunc_api_Item ?_
  intro args hp s u hfit h
  unfold sp_slices_insertionSortCmpFunc_api_Item at h
  split at h
  · rename_i a b data
    obtain ⟨hvc, rfl, rfl⟩ := h.vc
    clear h hfit
    change List Item at data
    conv => whnf
    repeat' (first
      | (refine And.intro ?_ ?_ <;> try conv => whnf)
      | (intro hh; first | (cases hh; done) | conv => whnf))
    all_goals try first | rfl | kernel_rfl
    all_goals try simp only [decide_eq_true_eq, decide_eq_false_iff_not] at *
    all_goals try simp only [Key_eta, Share_eta, Journey_eta, Batch_eta, FieldT_eta, OpB_eta, Product_eta, Item_eta, Delta_eta, Elem_eta, Rule_eta, Do10_eta, Ask_eta, Key_beq, Share_beq, Journey_beq, FieldT_beq, Product_beq, Item_beq, Do10_beq, Ask_beq, toNat0, toNat1, toNat2, toNat3, toNat4, toNat5, toNat6, toNat7, toNat8, toNat9, toNat10, toNat11, toNat12, toNat13, toNat14, toNat15, toNat16, toNat17, toNat18, toNat19, iA, iOf, atS, rwA, castK, zK, true_and, and_true, decide_eq_true_eq, decide_eq_false_iff_not, beq_iff_eq, bne_iff_ne, beq_eq_false_iff_ne, bne_eq_false_iff_eq, Bool.not_eq_true', Bool.not_eq_false', Bool.not_eq_true, Bool.not_eq_false, Nat.succ_eq_add_one, Int.not_lt, Int.not_le, gt_iff_lt, ge_iff_le, show bytesS T_slices_insertionSortCmpFunc_api_Item 22 = 40 from rfl] at *
    all_goals obtain ⟨h0, h1, h2, h3⟩ := hvc
    all_goals obtain ⟨a', rfl⟩ := natI h0
    all_goals obtain ⟨b', rfl⟩ := natI (show 0 ≤ b by omega)
    all_goals try (
      have q := ‹II1 _ _ _ _ _›
      obtain ⟨k, rfl, hk1, hk2, hk3⟩ := q
      simp only [Int.toNat_natCast] at *)
    all_goals try (
      have q := ‹II2 _ _ _ _ _›
      obtain ⟨q, rfl, hq1, hq2, hp, hlt⟩ := q
      have hl := hp.1
      have hil := insS_length (key := Item.number) (l := data) (a := a') (b := k) (by omega) (by omega)
      rw [hil] at hl
      have hii : II2 (insS Item.number data a' k) a' k q _ := ⟨q, rfl, hq1, hq2, hp, hlt⟩
      simp only [Int.toNat_natCast] at *)
    all_goals try (refine Vc.mk ?_; (try rw [List.length_set]); (try rw [wrap64 (by omega) (by omega)]); omega)
    · rw [wrap64 (by omega) (by omega)]
      refine ⟨⟨a' + 1, by omega, by omega, fun h => ?_, fun h => ⟨rfl, rfl⟩⟩⟩
      simp only [Int.toNat_natCast] at *
      rw [ins_start (by omega) (by omega) (by omega)]
    · obtain rfl := hk2 (by omega)
      exact ⟨⟨k, rfl, by simp only [Int.toNat_natCast]; omega, Nat.le_refl _, PI.start fun p => by unfold rotI; (repeat' split) <;> omega, fun c h h' => by simp only [Int.toNat_natCast] at *; omega⟩⟩
    · obtain ⟨r, rfl⟩ : ∃ r, q = r + 1 := ⟨q - 1, by omega⟩
      have hw : IntKind.i64.wrap (((r + 1 : Nat) : Int) - 1) = (r : Int) := by rw [wrap64 (by omega) (by omega)]; omega
      simp only [hw, Int.toNat_natCast] at *
      have hc := cmpI_neg.1 ‹cmpI _ _ < 0›
      exact ⟨ii_step hii (by omega) (by omega) hc, by omega⟩
    · have hw : IntKind.i64.wrap ((k : Int) + 1) = ((k + 1 : Nat) : Int) := by rw [wrap64 (by omega) (by omega)]; omega
      have hw2 : a' < q → IntKind.i64.wrap ((q : Int) - 1) = ((q - 1 : Nat) : Int) := fun h => by rw [wrap64 (by omega) (by omega)]; omega
      rw [hw]
      have he := ii_end hii (by omega) (by omega) (fun h => by
        have hc0 := ‹0 ≤ cmpI _ _›
        rw [hw2 h, Int.toNat_natCast] at hc0
        exact (not_congr cmpI_neg).1 (Int.not_lt.2 hc0))
      exact ⟨⟨k + 1, rfl, by simp only [Int.toNat_natCast]; omega, fun _ => he, fun h => by simp only [Int.toNat_natCast] at *; omega⟩, by simp only [Int.toNat_natCast]; omega⟩
    · have hw : IntKind.i64.wrap ((k : Int) + 1) = ((k + 1 : Nat) : Int) := by rw [wrap64 (by omega) (by omega)]; omega
      rw [hw]
      have he := ii_end hii (by omega) (by omega) (fun h => by omega)
      exact ⟨⟨k + 1, rfl, by simp only [Int.toNat_natCast]; omega, fun _ => he, fun h => by simp only [Int.toNat_natCast] at *; omega⟩, by simp only [Int.toNat_natCast]; omega⟩
    · rcases Nat.lt_or_ge b' k with h | h
      · obtain ⟨h5, h6⟩ := hk3 h
        rw [ins_start (by omega) (by omega) (by omega)]
        exact Res.mk h6
      · obtain rfl : k = b' := by omega
        exact Res.mk (hk2 h)
  · exact h.fail.elim

end Go.Proofs.Ythbmllekbbfobaa.Sx
