import Derived.Test.YthbmllekbbfobaaProg
import Derived.Test.YthbmllekbbfobaaSxU
import Derived.IntWalk
import Derived.Test.YthbmllekbbfobaaL13c0
/-! lists, laws -/
namespace Go.Proofs.Ythbmllekbbfobaa.Sx
open Go
set_option linter.unusedVariables false
set_option linter.unusedSimpArgs false
set_option maxRecDepth 100000

def T_fareboxlaw12_ListsPlays : TT := [(3, ⟨.int .i64, 1, 8, [.int .i64 0], some .int⟩),
  (4, ⟨.bool, 1, 1, [.bool false], some .bool⟩),
  (22, ⟨.slice 52, 1, 24, [.slice none 0 0], none⟩),
  (24, ⟨.strct [(0, 3), (1, 22), (2, 22)], 3, 56, [.int .i64 0, .slice none 0 0, .slice none 0 0], some .delta⟩),
  (27, ⟨.int .i64, 1, 8, [.int .i64 0], some .int⟩),
  (40, ⟨.slice 24, 1, 24, [.slice none 0 0], none⟩),
  (42, ⟨.ptr, 1, 8, [.pointer none], none⟩),
  (44, ⟨.strct [(0, 3), (1, 22)], 2, 32, [.int .i64 0, .slice none 0 0], none⟩),
  (46, ⟨.strct [(0, 44)], 2, 32, [.int .i64 0, .slice none 0 0], none⟩),
  (52, ⟨.strct [(0, 3), (1, 3), (2, 3), (3, 3), (4, 3)], 5, 40, [.int .i64 0, .int .i64 0, .int .i64 0, .int .i64 0, .int .i64 0], some .item⟩),
  (72, ⟨.strct [(0, 3), (1, 3), (2, 3), (3, 3)], 4, 32, [.int .i64 0, .int .i64 0, .int .i64 0, .int .i64 0], some .ask⟩),
  (73, ⟨.ptr, 1, 8, [.pointer none], none⟩),
  (74, ⟨.strct [(0, 44)], 2, 32, [.int .i64 0, .slice none 0 0], none⟩),
  (75, ⟨.other, 1, 8, [.nilFunc], none⟩),
  (76, ⟨.other, 1, 8, [.nilFunc], none⟩),
  (79, ⟨.slice 72, 1, 24, [.slice none 0 0], none⟩),
  (80, ⟨.ptr, 1, 8, [.pointer none], none⟩),
  (82, ⟨.strct [(0, 3), (1, 22)], 2, 32, [.int .i64 0, .slice none 0 0], none⟩)]
theorem tOk_fareboxlaw12_ListsPlays : TOk Try.prog T_fareboxlaw12_ListsPlays := tOk_of (by kernel_rfl)
def sp_fareboxlaw12_ListsPlays : Spec := fun args hp => match args, hp with
  | [.slF 0, .slF 1], [(0, .row o_ds .delta ds), (1, .row o_asks .ask asks)] => .vc (ds.length ≤ 1048576 ∧ asks.length ≤ 1048576 ∧ ∀ d ∈ ds, (d.add.length ≤ 1048576 ∧ d.off.length ≤ 1048576) ∧ d.to ≤ 9223372036854775807) (bv true) []
  | _, _ => .fail "fareboxlaw12_ListsPlays"
abbrev k_fareboxlaw12_ListsPlays : List (Option RK) := [some .delta, some .ask]
def a_fareboxlaw12_ListsPlays : List SV → List (Nat × VB) → Anns := fun args hp => match args, hp with
  | [.slF 0, .slF 1], [(0, .row o_ds .delta ds), (1, .row o_asks .ask asks)] => [(6, fun S => .inv [pOf (S.get 5), pOf (S.get 6), pOf (S.get 7), pOf (S.get 8)] [] [] fun ids vs rs => { cars := [.i 9 .i64, .blk (atN ids 0) [.i .i64, .r true .item], .blk (atN ids 1) [.i .i64, .r true .item], .blk (atN ids 2) [.i .i64, .r true .item], .blk (atN ids 3) [.i .i64, .r true .item]], inv := fun ((i, (v, A, _), (w, B, _), (v3, C, _), (w3, D, _), _) : Int × (Int × List Item × Unit) × (Int × List Item × Unit) × (Int × List Item × Unit) × (Int × List Item × Unit) × Unit) => IPly ds i v A w B v3 C w3 D, mu := fun ((i, (v, A, _), (w, B, _), (v3, C, _), (w3, D, _), _) : Int × (Int × List Item × Unit) × (Int × List Item × Unit) × (Int × List Item × Unit) × (Int × List Item × Unit) × Unit) => 60 - i.toNat }),
    (15, fun S => .inv [pOf (cellOf S (pOf (S.get 10)) 1)] [] [pOf (cellOf S (pOf (S.get 10)) 1)] fun ids vs rs => { cars := [.i 13 .i64, .row (atN ids 0) true .item], inv := fun ((k, xs, _) : Int × List Item × Unit) => ILn (rwA .item rs 0).length xs k, mu := fun ((k, xs, _) : Int × List Item × Unit) => xs.length - k.toNat }),
    (22, fun S => .inv [pOf (S.get 14)] [] [pOf (S.get 14)] fun ids vs rs => { cars := [.i 16 .i64, .row (atN ids 0) true .item], inv := fun ((k, xs, _) : Int × List Item × Unit) => ILn (rwA .item rs 0).length xs k, mu := fun ((k, xs, _) : Int × List Item × Unit) => xs.length - k.toNat }),
    (26, fun S => .inv [] [] [] fun ids vs rs => { cars := [.i 17 .i64], inv := fun ((k, _) : Int × Unit) => IAk asks.length k, mu := fun ((k, _) : Int × Unit) => 6 - k.toNat })]
  | _, _ => []
set_option maxHeartbeats 20000000 in
theorem ok_fareboxlaw12_ListsPlays : GOk Try.prog 9 (lift k_fareboxlaw12_ListsPlays sp_fareboxlaw12_ListsPlays) := by
  refine pf_ok (T := T_fareboxlaw12_ListsPlays) (Γ := (14, lift k_fareboxlaw12_awake sp_fareboxlaw12_awake) :: (16, lift k_fareboxlaw12_copied sp_fareboxlaw12_copied) :: (22, lift k_lists_Hot_Apply sp_lists_Hot_Apply) :: (35, lift k_lists_Act_Apply sp_lists_Act_Apply) :: (37, lift k_fareboxref12_List_Apply sp_fareboxref12_List_Apply) :: (19, lift k_fareboxref12_Same sp_fareboxref12_Same) :: (23, lift k_lists_list_Items sp_lists_list_Items) :: (21, lift k_lists_list_Version sp_lists_list_Version) :: (25, lift k_lists_Hot_Has sp_lists_Hot_Has) :: (38, lift k_fareboxref12_List_Has sp_fareboxref12_List_Has) :: (36, lift k_lists_Act_For sp_lists_Act_For) :: (40, lift k_fareboxref12_List_For sp_fareboxref12_List_For) :: (39, lift k_fareboxlaw12_same sp_fareboxlaw12_same) :: []) tOk_fareboxlaw12_ListsPlays (gOks_cons ok_fareboxlaw12_awake (gOks_cons ok_fareboxlaw12_copied (gOks_cons ok_lists_Hot_Apply (gOks_cons ok_lists_Act_Apply (gOks_cons ok_fareboxref12_List_Apply (gOks_cons ok_fareboxref12_Same (gOks_cons ok_lists_list_Items (gOks_cons ok_lists_list_Version (gOks_cons ok_lists_Hot_Has (gOks_cons ok_fareboxref12_List_Has (gOks_cons ok_lists_Act_For (gOks_cons ok_fareboxref12_List_For (gOks_cons ok_fareboxlaw12_same (gOks_nil _)))))))))))))) mixed Try.func9 (c := body Try.f9) (by kernel_rfl) (by kernel_rfl) k_fareboxlaw12_ListsPlays sp_fareboxlaw12_ListsPlays (by kernel_rfl) (by kernel_rfl) a_fareboxlaw12_ListsPlays ?_
  intro args hp s u hfit h
  unfold sp_fareboxlaw12_ListsPlays at h
  split at h
  · rename_i o_ds ds o_asks asks
    obtain ⟨hvc, rfl, rfl⟩ := h.vc
    clear h hfit
    change List Delta at ds
    change List Ask at asks
    conv => whnf
    repeat' (first
      | (refine And.intro ?_ ?_ <;> try conv => whnf)
      | (intro hh; first | (cases hh; done) | conv => whnf))
    all_goals try first | rfl | kernel_rfl
    all_goals try simp only [decide_eq_true_eq, decide_eq_false_iff_not] at *
    all_goals try simp only [Key_eta, Share_eta, Journey_eta, Batch_eta, FieldT_eta, OpB_eta, Product_eta, Item_eta, Delta_eta, Elem_eta, Rule_eta, Do10_eta, Ask_eta, Key_beq, Share_beq, Journey_beq, FieldT_beq, Product_beq, Item_beq, Do10_beq, Ask_beq, toNat0, toNat1, toNat2, toNat3, toNat4, toNat5, toNat6, toNat7, toNat8, toNat9, toNat10, toNat11, toNat12, toNat13, toNat14, toNat15, toNat16, toNat17, toNat18, toNat19, iA, iOf, atS, rwA, castK, zK, true_and, and_true, decide_eq_true_eq, decide_eq_false_iff_not, beq_iff_eq, bne_iff_ne, beq_eq_false_iff_ne, bne_eq_false_iff_eq, Bool.not_eq_true', Bool.not_eq_false', Bool.not_eq_true, Bool.not_eq_false, Nat.succ_eq_add_one, Int.not_lt, Int.not_le, gt_iff_lt, ge_iff_le, show bytesS T_fareboxlaw12_ListsPlays 22 = 40 from rfl, show bytesS T_fareboxlaw12_ListsPlays 40 = 56 from rfl, show bytesS T_fareboxlaw12_ListsPlays 79 = 32 from rfl, List.nil_append] at *
    all_goals obtain ⟨hL, hK, hD⟩ := hvc
    all_goals try simp only [forRow_take] at *
    all_goals try (
      have hex := ‹IPly _ _ _ _ _ _ _ _ _ _›
      obtain ⟨n, x, y, L, M, n1, n2, x1, y1, hLl, hMl, hLr, hMr, rfl, rfl, rfl, rfl, rfl, rfl, rfl, rfl, rfl⟩ := hex)
    all_goals try simp only [Int.toNat_natCast] at *
    all_goals try (
      have w1 : IntKind.i64.wrap ((n : Int) + 1) = n + 1 := wrap64 (by omega) (by omega)
      simp only [w1] at *)
    all_goals try (
      have hd := hD _ (mem_getD (d := (⟨0, [], []⟩ : Delta)) (show n < ds.length by omega))
      obtain ⟨⟨d1, d2⟩, d3⟩ := hd
      generalize (ds.getD n ⟨0, [], []⟩).add = add at *
      generalize (ds.getD n ⟨0, [], []⟩).off = off at *
      generalize (ds.getD n ⟨0, [], []⟩).to = to at *
      have a1 := apply_ver (act := false) (v := (x : Int)) (L := L) (to := to) (add := add) (off := off)
      have a2 := apply_len (act := false) (v := (x : Int)) (L := L) (to := to) (add := add) (off := off) hLl
      have a3 := apply_mem (act := false) (v := (x : Int)) (L := L) (to := to) (add := add) (off := off) hLr
      have b1 := apply_ver (act := true) (v := (y : Int)) (L := M) (to := to) (add := add) (off := off)
      have b2 := apply_len (act := true) (v := (y : Int)) (L := M) (to := to) (add := add) (off := off) hMl
      have b3 := apply_mem (act := true) (v := (y : Int)) (L := M) (to := to) (add := add) (off := off) hMr
      generalize applyV false (x : Int) L to add off = p at *
      generalize applyV true (y : Int) M to add off = r at *
      generalize applyL false (x : Int) L to add off = L' at *
      generalize applyL true (y : Int) M to add off = M' at *)
    all_goals try (generalize applyE false (x : Int) L to add off = e1 at *)
    all_goals try (generalize applyE true (y : Int) M to add off = e2 at *)
    all_goals try (
      have hex := ‹IAk _ _›
      obtain ⟨j, j1, j2, rfl⟩ := hex
      have w5 : IntKind.i64.wrap ((j : Int) + 1) = j + 1 := wrap64 (by omega) (by omega))
    all_goals try (
      have hex := ‹ILn _ _ _›
      obtain ⟨l1, i, i1, rfl⟩ := hex
      have w6 : IntKind.i64.wrap ((i : Int) + 1) = i + 1 := wrap64 (by omega) (by omega))
    all_goals try simp only [w5] at *
    all_goals try simp only [w6] at *
    all_goals try simp only [Int.toNat_natCast] at *
    all_goals try (
      generalize (asks.getD j ⟨0, 0, 0, 0⟩).card = q1 at *
      generalize (asks.getD j ⟨0, 0, 0, 0⟩).owner = q2 at *
      generalize (asks.getD j ⟨0, 0, 0, 0⟩).id = q3 at *)
    all_goals try (
      generalize (asks.getD j ⟨0, 0, 0, 0⟩).act = q4 at *)
    all_goals try (
      have hF : (forI q1 q2 q3 q4 M').length ≤ M'.length := forS_len _ _ _)
    all_goals try (refine Vc.mk ?_; first | omega | (refine ⟨?_, ?_⟩ <;> omega) | (refine ⟨?_, ?_, ?_⟩ <;> omega) | (refine ⟨?_, ?_, ?_, ?_, ?_⟩ <;> omega) | exact ⟨by omega, fun z hz => hot_own (a3 z hz)⟩)
    all_goals try (exact ⟨⟨0, 0, 0, [], [], by omega, by omega, by omega, by omega, by simp, by simp, by simp, by simp, rfl, rfl, rfl, rfl, rfl, rfl, rfl, rfl, rfl⟩⟩)
    all_goals try (exact ⟨⟨0, by omega, by omega, rfl⟩⟩)
    all_goals try (exact ⟨⟨rfl, 0, Nat.zero_le _, rfl⟩⟩)
    all_goals try (exact Res.mk rfl)
    all_goals try (
      refine ⟨⟨n + 1, p.toNat, r.toNat, L', M', ?_, ?_, ?_, ?_, a2, b2, a3, b3, ?_, (Int.toNat_of_nonneg ?_).symm, (Int.toNat_of_nonneg ?_).symm, (Int.toNat_of_nonneg ?_).symm, (Int.toNat_of_nonneg ?_).symm, rfl, rfl, rfl, rfl⟩, ?_⟩ <;> omega)
    all_goals try (
      refine ⟨⟨?_, i + 1, ?_, ?_⟩, ?_⟩ <;> (try rw [List.length_set]) <;> first | exact l1 | omega)
    all_goals try (
      refine ⟨⟨j + 1, ?_, ?_, ?_⟩, ?_⟩ <;> omega)
    all_goals try (exact Res.mk trivial)
    all_goals (exfalso; first | contradiction | exact absurd rfl ‹_ ≠ _› | (simp only [ne_eq, not_true_eq_false] at *; done) | (simp_all; done))
  · exact h.fail.elim

end Go.Proofs.Ythbmllekbbfobaa.Sx
