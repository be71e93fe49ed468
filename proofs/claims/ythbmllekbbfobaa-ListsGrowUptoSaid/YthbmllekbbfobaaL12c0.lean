import Derived.Test.YthbmllekbbfobaaProg
import Derived.Test.YthbmllekbbfobaaSxU
import Derived.IntWalk
import Derived.Test.YthbmllekbbfobaaL12r
/-! lists, For -/
namespace Go.Proofs.Ythbmllekbbfobaa.Sx
open Go
set_option linter.unusedVariables false
set_option linter.unusedSimpArgs false
set_option maxRecDepth 100000

def T_lists_Act_For : TT := [(3, ⟨.int .i64, 1, 8, [.int .i64 0], some .int⟩),
  (4, ⟨.bool, 1, 1, [.bool false], some .bool⟩),
  (22, ⟨.slice 52, 1, 24, [.slice none 0 0], none⟩),
  (44, ⟨.strct [(0, 3), (1, 22)], 2, 32, [.int .i64 0, .slice none 0 0], none⟩),
  (52, ⟨.strct [(0, 3), (1, 3), (2, 3), (3, 3), (4, 3)], 5, 40, [.int .i64 0, .int .i64 0, .int .i64 0, .int .i64 0, .int .i64 0], some .item⟩),
  (73, ⟨.ptr, 1, 8, [.pointer none], none⟩),
  (74, ⟨.strct [(0, 44)], 2, 32, [.int .i64 0, .slice none 0 0], none⟩),
  (76, ⟨.other, 1, 8, [.nilFunc], none⟩),
  (170, ⟨.other, 1, 8, [.nilFunc], none⟩),
  (173, ⟨.other, 1, 8, [.nilFunc], none⟩)]
theorem tOk_lists_Act_For : TOk Try.prog T_lists_Act_For := tOk_of (by kernel_rfl)
def sp_lists_Act_For : Spec := fun args hp => match args, hp with
  | [.ptr 0 0, .val (.int .i64 card), .val (.int .i64 owner), .val (.int .i64 id_), .val (.int .i64 act)], [(0, .cells [.val (.int .i64 a_version), .slF 1]), (1, .row true .item a_items)] => .vc (a_items.length ≤ 64) (.fn (.func 134) [] [.ptr 2000 0]) [(2000, some (.cells [.slP 2001 0 (forI card owner id_ act a_items).length])), (2001, some (.row true .item (forRow card owner id_ act a_items)))]
  | _, _ => .fail "lists_Act_For"
abbrev k_lists_Act_For : List (Option RK) := [none, none, none, none, none]
def a_lists_Act_For : List SV → List (Nat × VB) → Anns := fun args hp => match args, hp with
  | [.ptr 0 0, .val (.int .i64 card), .val (.int .i64 owner), .val (.int .i64 id_), .val (.int .i64 act)], [(0, .cells [.val (.int .i64 a_version), .slF 1]), (1, .row true .item a_items)] => [(3, fun S => .inv [] [] [] fun ids vs rs => { cars := [.i 20 .i64, .r 11 true .item], inv := fun ((i, todo, _) : Int × List Item × Unit) => IFo card owner id_ act a_items i todo, mu := fun ((i, todo, _) : Int × List Item × Unit) => a_items.length - i.toNat })]
  | _, _ => []
set_option maxHeartbeats 20000000 in
theorem ok_lists_Act_For : GOk Try.prog 36 (lift k_lists_Act_For sp_lists_Act_For) := by
  refine pf_ok (T := T_lists_Act_For) (Γ := (76, lift k_lists_about sp_lists_about) :: (91, lift k_slices_SortStableFunc_api_Item_api_Item sp_slices_SortStableFunc_api_Item_api_Item) :: (95, lift k_slices_CompactFunc_api_Item_api_Item sp_slices_CompactFunc_api_Item_api_Item) :: (94, lift k_slices_Values_api_Item_api_Item sp_slices_Values_api_Item_api_Item) :: []) tOk_lists_Act_For (gOks_cons ok_lists_about (gOks_cons ok_slices_SortStableFunc_api_Item_api_Item (gOks_cons ok_slices_CompactFunc_api_Item_api_Item (gOks_cons ok_slices_Values_api_Item_api_Item (gOks_nil _))))) mixed Try.func36 (c := body Try.f36) (by kernel_rfl) (by kernel_rfl) k_lists_Act_For sp_lists_Act_For (by kernel_rfl) (by kernel_rfl) a_lists_Act_For ?_
  intro args hp s u hfit h
  unfold sp_lists_Act_For at h
  split at h
  · rename_i card owner id_ act a_version a_items
    obtain ⟨hvc, rfl, rfl⟩ := h.vc
    clear h hfit
    conv => whnf
    repeat' (first
      | (refine And.intro ?_ ?_ <;> try conv => whnf)
      | (intro hh; first | (cases hh; done) | conv => whnf))
    all_goals try first | rfl | kernel_rfl
    all_goals try simp only [decide_eq_true_eq, decide_eq_false_iff_not] at *
    all_goals try simp only [Key_eta, Share_eta, Journey_eta, Batch_eta, FieldT_eta, OpB_eta, Product_eta, Item_eta, Delta_eta, Elem_eta, Rule_eta, Do10_eta, Ask_eta, Key_beq, Share_beq, Journey_beq, FieldT_beq, Product_beq, Item_beq, Do10_beq, Ask_beq, toNat0, toNat1, toNat2, toNat3, toNat4, toNat5, toNat6, toNat7, toNat8, toNat9, toNat10, toNat11, toNat12, toNat13, toNat14, toNat15, toNat16, toNat17, toNat18, toNat19, iA, iOf, atS, rwA, castK, zK, true_and, and_true, decide_eq_true_eq, decide_eq_false_iff_not, beq_iff_eq, bne_iff_ne, beq_eq_false_iff_ne, bne_eq_false_iff_eq, Bool.not_eq_true', Bool.not_eq_false', Bool.not_eq_true, Bool.not_eq_false, Nat.succ_eq_add_one, Int.not_lt, Int.not_le, gt_iff_lt, ge_iff_le, show bytesS T_lists_Act_For 22 = 40 from rfl] at *
    all_goals try (
      have z := ‹IFo _ _ _ _ _ _ _›
      obtain ⟨j, hj, rfl, rfl⟩ := z
      have hf : ((a_items.take j).filter (candI (fun x => aboutI x card owner id_) act)).length ≤ j := Nat.le_trans (List.length_filter_le _ _) (by rw [List.length_take]; omega)
      have hs := stS_length Item.number ((a_items.take j).filter (candI (fun x => aboutI x card owner id_) act)))
    all_goals try simp only [Int.toNat_natCast] at *
    all_goals try (refine Vc.mk ?_; first | omega | (simp only [List.length_singleton]; omega))
    all_goals try (rw [wrap64 (n := (j : Int) + 1) (by omega) (by omega)])
    · exact ⟨⟨0, by omega, rfl, rfl⟩⟩
    · refine ⟨⟨j + 1, by omega, rfl, fo_yes (by omega) ?_⟩, by omega⟩
      simp only [candI, Bool.and_eq_true, decide_eq_true_eq]
      exact ⟨‹_›, by omega⟩
    · refine ⟨⟨j + 1, by omega, rfl, fo_no (by omega) ?_⟩, by omega⟩
      first
        | (have h0 : aboutI _ _ _ _ = false := ‹_›
           simp only [candI, h0, Bool.false_and])
        | (have h0 : Item.number _ ≤ act := ‹_›
           simp only [candI, decide_eq_false (Int.not_lt.2 h0), Bool.and_false])
    · refine ⟨⟨j + 1, by omega, rfl, fo_no (by omega) ?_⟩, by omega⟩
      first
        | (have h0 : aboutI _ _ _ _ = false := ‹_›
           simp only [candI, h0, Bool.false_and])
        | (have h0 : Item.number _ ≤ act := ‹_›
           simp only [candI, decide_eq_false (Int.not_lt.2 h0), Bool.and_false])
    · obtain rfl : j = a_items.length := by omega
      rw [List.take_length]
      exact Res.mk ⟨rfl, rfl⟩
  · exact h.fail.elim

end Go.Proofs.Ythbmllekbbfobaa.Sx
