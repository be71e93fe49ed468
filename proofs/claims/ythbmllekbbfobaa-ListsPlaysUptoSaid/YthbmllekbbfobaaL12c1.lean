import Derived.Test.YthbmllekbbfobaaProg
import Derived.Test.YthbmllekbbfobaaSxU
import Derived.IntWalk
import Derived.Test.YthbmllekbbfobaaL12c0
/-! lists, For -/
namespace Go.Proofs.Ythbmllekbbfobaa.Sx
open Go
set_option linter.unusedVariables false
set_option linter.unusedSimpArgs false
set_option maxRecDepth 100000

def T_fareboxref12_List_For : TT := [(3, ⟨.int .i64, 1, 8, [.int .i64 0], some .int⟩),
  (4, ⟨.bool, 1, 1, [.bool false], some .bool⟩),
  (22, ⟨.slice 52, 1, 24, [.slice none 0 0], none⟩),
  (52, ⟨.strct [(0, 3), (1, 3), (2, 3), (3, 3), (4, 3)], 5, 40, [.int .i64 0, .int .i64 0, .int .i64 0, .int .i64 0, .int .i64 0], some .item⟩),
  (80, ⟨.ptr, 1, 8, [.pointer none], none⟩),
  (82, ⟨.strct [(0, 3), (1, 22)], 2, 32, [.int .i64 0, .slice none 0 0], none⟩)]
theorem tOk_fareboxref12_List_For : TOk Try.prog T_fareboxref12_List_For := tOk_of (by kernel_rfl)
def sp_fareboxref12_List_For : Spec := fun args hp => match args, hp with
  | [.ptr 0 0, .val (.int .i64 card), .val (.int .i64 owner), .val (.int .i64 id_), .val (.int .i64 act)], [(0, .cells [.val (.int .i64 l_version), .slF 1]), (1, .row true .item l_items)] => .vc (l_items.length ≤ 64) (.slF 2000) [(2000, some (.row true .item (forI card owner id_ act l_items)))]
  | _, _ => .fail "fareboxref12_List_For"
abbrev k_fareboxref12_List_For : List (Option RK) := [none, none, none, none, none]
def a_fareboxref12_List_For : List SV → List (Nat × VB) → Anns := fun args hp => match args, hp with
  | [.ptr 0 0, .val (.int .i64 card), .val (.int .i64 owner), .val (.int .i64 id_), .val (.int .i64 act)], [(0, .cells [.val (.int .i64 l_version), .slF 1]), (1, .row true .item l_items)] => [(3, fun S => .inv [] [] [] fun ids vs rs => { cars := [.r 11 true .item, .i 12 .i64], inv := fun ((out, at_, _) : List Item × Int × Unit) => IRf card owner id_ act l_items out at_, mu := fun ((out, at_, _) : List Item × Int × Unit) => (forI card owner id_ act l_items).length - out.length }),
    (5, fun S => .inv [] [S.get 12] [] fun ids vs rs => { cars := [.i 13 .i64, .i 14 .i64], inv := fun ((best, i, _) : Int × Int × Unit) => IRg card owner id_ ((iA vs 0)) l_items best i, mu := fun ((best, i, _) : Int × Int × Unit) => l_items.length - i.toNat })]
  | _, _ => []
set_option maxHeartbeats 20000000 in
theorem ok_fareboxref12_List_For : GOk Try.prog 40 (lift k_fareboxref12_List_For sp_fareboxref12_List_For) := by
  refine pf_ok (T := T_fareboxref12_List_For) (Γ := []) tOk_fareboxref12_List_For (gOks_nil _) mixed Try.func40 (c := body Try.f40) (by kernel_rfl) (by kernel_rfl) k_fareboxref12_List_For sp_fareboxref12_List_For (by kernel_rfl) (by kernel_rfl) a_fareboxref12_List_For ?_
  intro args hp s u hfit h
  unfold sp_fareboxref12_List_For at h
  split at h
  · rename_i card owner id_ act l_version l_items
    obtain ⟨hvc, rfl, rfl⟩ := h.vc
    clear h hfit
    conv => whnf
    repeat' (first
      | (refine And.intro ?_ ?_ <;> try conv => whnf)
      | (intro hh; first | (cases hh; done) | conv => whnf))
    all_goals try first | rfl | kernel_rfl
    all_goals try simp only [decide_eq_true_eq, decide_eq_false_iff_not] at *
    all_goals try simp only [Key_eta, Share_eta, Journey_eta, Batch_eta, FieldT_eta, OpB_eta, Product_eta, Item_eta, Delta_eta, Elem_eta, Rule_eta, Do10_eta, Ask_eta, Key_beq, Share_beq, Journey_beq, FieldT_beq, Product_beq, Item_beq, Do10_beq, Ask_beq, toNat0, toNat1, toNat2, toNat3, toNat4, toNat5, toNat6, toNat7, toNat8, toNat9, toNat10, toNat11, toNat12, toNat13, toNat14, toNat15, toNat16, toNat17, toNat18, toNat19, iA, iOf, atS, rwA, castK, zK, true_and, and_true, decide_eq_true_eq, decide_eq_false_iff_not, beq_iff_eq, bne_iff_ne, beq_eq_false_iff_ne, bne_eq_false_iff_eq, Bool.not_eq_true', Bool.not_eq_false', Bool.not_eq_true, Bool.not_eq_false, Nat.succ_eq_add_one, Int.not_lt, Int.not_le, gt_iff_lt, ge_iff_le, show bytesS T_fareboxref12_List_For 22 = 40 from rfl] at *
    all_goals try (
      have z := ‹IRg _ _ _ _ _ _ _›
      have hg := z
      obtain ⟨j, hj, rfl, hb⟩ := z
      clear hb)
    all_goals try simp only [Int.toNat_natCast] at *
    all_goals try (refine Vc.mk ?_; omega)
    all_goals try (
      have hr := rg_range hg ‹_›
      refine Vc.mk ?_
      omega)
    all_goals try (
      have hjl : j < l_items.length := by omega
      rw [wrap64 (n := (j : Int) + 1) (by omega) (by omega)]
      refine ⟨?_, by omega⟩
      first
        | (refine rg_no hg hjl ?_
           rw [Bool.eq_false_iff]
           intro h
           simp only [candI, aboutI, zIt, Bool.and_eq_true, decide_eq_true_eq] at h
           omega)
        | (refine rg_keep hg hjl ?_ ?_ <;> (try simp only [zIt]) <;> omega)
        | (refine rg_new hg hjl ?_ ?_
           · simp only [candI, aboutI, zIt, Bool.and_eq_true, decide_eq_true_eq]
             omega
           · simp only [zIt]
             omega))
    · exact ⟨⟨0, by omega, rfl, Int.le_refl _, fun _ => rfl, fun h => by omega⟩⟩
    · exact ⟨⟨0, by omega, rfl, .inl ⟨rfl, fun c h => by omega⟩⟩⟩
    · have hf := ‹IRf _ _ _ _ _ _ _›
      exact Res.mk (rf_done hf hg (by omega) (by omega))
    · have hf := ‹IRf _ _ _ _ _ _ _›
      have hn := rf_next hf hg (by omega)
      obtain ⟨n1, n2⟩ := hn ‹_›
      have n3 := forS_len (fun x => aboutI x card owner id_) act l_items
      refine Vc.mk ?_
      rw [List.length_singleton]
      have n4 := Nat.lt_of_lt_of_le n1 n3
      omega
    · have hf := ‹IRf _ _ _ _ _ _ _›
      have hn := rf_next hf hg (by omega)
      obtain ⟨n1, n2⟩ := hn ‹_›
      exact ⟨n2, by rw [List.length_append, List.length_singleton]; omega⟩
  · exact h.fail.elim

end Go.Proofs.Ythbmllekbbfobaa.Sx
