import Derived.Test.YthbmllekbbfobaaProg
import Derived.Test.YthbmllekbbfobaaSxU
import Derived.IntWalk
import Derived.Test.YthbmllekbbfobaaL13r
/-! lists, laws -/
namespace Go.Proofs.Ythbmllekbbfobaa.Sx
open Go
set_option linter.unusedVariables false
set_option linter.unusedSimpArgs false
set_option maxRecDepth 100000

def T_fareboxlaw12_ListsGrow : TT := [(3, ⟨.int .i64, 1, 8, [.int .i64 0], some .int⟩),
  (4, ⟨.bool, 1, 1, [.bool false], some .bool⟩),
  (22, ⟨.slice 52, 1, 24, [.slice none 0 0], none⟩),
  (24, ⟨.strct [(0, 3), (1, 22), (2, 22)], 3, 56, [.int .i64 0, .slice none 0 0, .slice none 0 0], some .delta⟩),
  (27, ⟨.int .i64, 1, 8, [.int .i64 0], some .int⟩),
  (40, ⟨.slice 24, 1, 24, [.slice none 0 0], none⟩),
  (42, ⟨.ptr, 1, 8, [.pointer none], none⟩),
  (44, ⟨.strct [(0, 3), (1, 22)], 2, 32, [.int .i64 0, .slice none 0 0], none⟩),
  (46, ⟨.strct [(0, 44)], 2, 32, [.int .i64 0, .slice none 0 0], none⟩),
  (52, ⟨.strct [(0, 3), (1, 3), (2, 3), (3, 3), (4, 3)], 5, 40, [.int .i64 0, .int .i64 0, .int .i64 0, .int .i64 0, .int .i64 0], some .item⟩),
  (72, ⟨.strct [(0, 3), (1, 3), (2, 3), (3, 3)], 4, 32, [.int .i64 0, .int .i64 0, .int .i64 0, .int .i64 0], some .ask⟩),
  (73, ⟨.ptr, 1, 8, [.pointer none], none⟩),
  (74, ⟨.strct [(0, 44)], 2, 32, [.int .i64 0, .slice none 0 0], none⟩),
  (76, ⟨.other, 1, 8, [.nilFunc], none⟩)]
theorem tOk_fareboxlaw12_ListsGrow : TOk Try.prog T_fareboxlaw12_ListsGrow := tOk_of (by kernel_rfl)
def sp_fareboxlaw12_ListsGrow : Spec := fun args hp => match args, hp with
  | [.slF 0, .agg q_cs], [(0, .row o_ds .delta ds)] => (match decS .ask q_cs with
    | some q => .vc (ds.length ≤ 1048576 ∧ (∀ d ∈ ds, d.add.length ≤ 1048576 ∧ d.off.length ≤ 1048576) ∧ -9223372036854775808 ≤ q.act ∧ q.act ≤ 9223372036854775807) (bv true) []
    | none => .fail "struct")
  | _, _ => .fail "fareboxlaw12_ListsGrow"
abbrev k_fareboxlaw12_ListsGrow : List (Option RK) := [some .delta, none]
def a_fareboxlaw12_ListsGrow : List SV → List (Nat × VB) → Anns := fun args hp => match args, hp with
  | [.slF 0, .agg q_cs], [(0, .row o_ds .delta ds)] => (match decS .ask q_cs with
    | some q => [(5, fun S => .inv [pOf (S.get 5), pOf (S.get 6)] [] [] fun ids vs rs => { cars := [.i 7 .i64, .blk (atN ids 0) [.i .i64, .r true .item], .blk (atN ids 1) [.i .i64, .r true .item]], inv := fun ((i, (v, A, _), (w, B, _), _) : Int × (Int × List Item × Unit) × (Int × List Item × Unit) × Unit) => IGr ds i v A w B, mu := fun ((i, (v, A, _), (w, B, _), _) : Int × (Int × List Item × Unit) × (Int × List Item × Unit) × Unit) => 30 - i.toNat }),
    (14, fun S => .each [pOf (S.get 9), pOf (S.get 10)] [] [pOf (cellOf S (pOf (S.get 6)) 1)] fun ids vs rs => { cars := [.blk (atN ids 0) [.i .i64], .blk (atN ids 1) [.i .i64]], inv := fun k (((last, _), (n, _), _) : (Int × Unit) × (Int × Unit) × Unit) => IGe (forI q.card q.owner q.id q.act (rwA .item rs 0)) q.act last n k }),
    (22, fun S => .each [pOf (S.get 11)] [] [pOf (cellOf S (pOf (S.get 6)) 1)] fun ids vs rs => { cars := [.blk (atN ids 0) [.i .i64]], inv := fun k (((m, _), _) : (Int × Unit) × Unit) => IGm (forI q.card q.owner q.id (q.act + 1) (rwA .item rs 0)) m k })]
    | none => [])
  | _, _ => []
set_option maxHeartbeats 20000000 in
theorem ok_fareboxlaw12_ListsGrow : GOk Try.prog 8 (lift k_fareboxlaw12_ListsGrow sp_fareboxlaw12_ListsGrow) := by
  refine pf_ok (T := T_fareboxlaw12_ListsGrow) (Γ := (14, lift k_fareboxlaw12_awake sp_fareboxlaw12_awake) :: (22, lift k_lists_Hot_Apply sp_lists_Hot_Apply) :: (35, lift k_lists_Act_Apply sp_lists_Act_Apply) :: (25, lift k_lists_Hot_Has sp_lists_Hot_Has) :: (21, lift k_lists_list_Version sp_lists_list_Version) :: (36, lift k_lists_Act_For sp_lists_Act_For) :: (134, itValues .item true) :: []) tOk_fareboxlaw12_ListsGrow (gOks_cons ok_fareboxlaw12_awake (gOks_cons ok_lists_Hot_Apply (gOks_cons ok_lists_Act_Apply (gOks_cons ok_lists_Hot_Has (gOks_cons ok_lists_list_Version (gOks_cons ok_lists_Act_For (gOks_cons ok_slices_Values_api_Item_api_Item_1 (gOks_nil _)))))))) mixed Try.func8 (c := body Try.f8) (by kernel_rfl) (by kernel_rfl) k_fareboxlaw12_ListsGrow sp_fareboxlaw12_ListsGrow (by kernel_rfl) (by kernel_rfl) a_fareboxlaw12_ListsGrow ?_
  intro args hp s u hfit h
  unfold sp_fareboxlaw12_ListsGrow at h
  split at h
  · rename_i q_cs o_ds ds
    split at h
    case h_2 => exact h.fail.elim
    rename_i q h_q
    obtain rfl := decS_ok (k := .ask) rfl h_q
    clear h_q
    change Ask at q
    obtain ⟨hvc, rfl, rfl⟩ := h.vc
    clear h hfit
    change List Delta at ds
    conv => whnf
    repeat' (first
      | (refine And.intro ?_ ?_ <;> try conv => whnf)
      | (intro hh; first | (cases hh; done) | conv => whnf))
    all_goals try first | rfl | kernel_rfl
    all_goals try simp only [decide_eq_true_eq, decide_eq_false_iff_not] at *
    all_goals try simp only [Key_eta, Share_eta, Journey_eta, Batch_eta, FieldT_eta, OpB_eta, Product_eta, Item_eta, Delta_eta, Elem_eta, Rule_eta, Do10_eta, Ask_eta, Key_beq, Share_beq, Journey_beq, FieldT_beq, Product_beq, Item_beq, Do10_beq, Ask_beq, toNat0, toNat1, toNat2, toNat3, toNat4, toNat5, toNat6, toNat7, toNat8, toNat9, toNat10, toNat11, toNat12, toNat13, toNat14, toNat15, toNat16, toNat17, toNat18, toNat19, iA, iOf, atS, rwA, castK, zK, true_and, and_true, decide_eq_true_eq, decide_eq_false_iff_not, beq_iff_eq, bne_iff_ne, beq_eq_false_iff_ne, bne_eq_false_iff_eq, Bool.not_eq_true', Bool.not_eq_false', Bool.not_eq_true, Bool.not_eq_false, Nat.succ_eq_add_one, Int.not_lt, Int.not_le, gt_iff_lt, ge_iff_le, show bytesS T_fareboxlaw12_ListsGrow 22 = 40 from rfl, show bytesS T_fareboxlaw12_ListsGrow 40 = 56 from rfl, List.nil_append] at *
    all_goals obtain ⟨hL, hD, hq0, hq1⟩ := hvc
    all_goals try simp only [forRow_take] at *
    all_goals try (
      have hex := ‹IGr _ _ _ _ _ _›
      obtain ⟨n, x, y, L, M, n1, n2, x1, y1, hLl, hMl, hMr, rfl, rfl, rfl, rfl, rfl⟩ := hex)
    all_goals try simp only [Int.toNat_natCast] at *
    all_goals try (
      have w1 : IntKind.i64.wrap ((n : Int) + 1) = n + 1 := wrap64 (by omega) (by omega)
      have w2 : IntKind.i64.wrap ((x : Int) + 1) = x + 1 := wrap64 (by omega) (by omega)
      have w3 : IntKind.i64.wrap ((y : Int) + 1) = y + 1 := wrap64 (by omega) (by omega)
      simp only [w1, w2, w3] at *)
    all_goals try (
      have hd := hD _ (mem_getD (d := (⟨0, [], []⟩ : Delta)) (show n < ds.length by omega))
      obtain ⟨d1, d2⟩ := hd
      generalize (ds.getD n ⟨0, [], []⟩).add = add at *
      have a1 := apply_ver (act := false) (v := (x : Int)) (L := L) (to := (x : Int) + 1) (add := add) (off := [])
      have a2 := apply_len (act := false) (v := (x : Int)) (L := L) (to := (x : Int) + 1) (add := add) (off := []) hLl
      have b1 := apply_ver (act := true) (v := (y : Int)) (L := M) (to := (y : Int) + 1) (add := add) (off := [])
      have b2 := apply_len (act := true) (v := (y : Int)) (L := M) (to := (y : Int) + 1) (add := add) (off := []) hMl
      have b3 := apply_mem (act := true) (v := (y : Int)) (L := M) (to := (y : Int) + 1) (add := add) (off := []) hMr)
    all_goals try (
      have w4 : IntKind.i64.wrap (q.act + 1) = q.act + 1 := wrap64 (by omega) (by omega)
      simp only [w4, forRow_take] at *)
    all_goals try (
      have hF : (forI q.card q.owner q.id q.act M).length ≤ M.length := forS_len _ _ _
      have hG : (forI q.card q.owner q.id (q.act + 1) M).length ≤ M.length := forS_len _ _ _
      have hO : (forI q.card q.owner q.id (q.act + 1) M).length ≤ (forI q.card q.owner q.id q.act M).length ∧ (forI q.card q.owner q.id q.act M).length ≤ (forI q.card q.owner q.id (q.act + 1) M).length + 1 := forS_one _ _ _
      have hX := fun h => for_none (card := q.card) (owner := q.owner) (id := q.id) (act := q.act) hMr h
      have hY : IntKind.i64.wrap (((forI q.card q.owner q.id q.act M).length : Int) - 1) = ((forI q.card q.owner q.id q.act M).length : Int) - 1 := wrap64 (by omega) (by omega))
    all_goals try (
      have hex := ‹IGe _ _ _ _ _›
      obtain ⟨j, hj, rfl, g1, g2, g3⟩ := hex
      try subst hj)
    all_goals try (
      have hex := ‹IGm _ _ _›
      obtain ⟨i, hi, rfl, i1⟩ := hex
      try subst hi)
    all_goals try (
      have w5 : IntKind.i64.wrap ((j : Int) + 1) = j + 1 := wrap64 (by omega) (by omega)
      simp only [w5] at *)
    all_goals try (
      have w6 : IntKind.i64.wrap ((i : Int) + 1) = i + 1 := wrap64 (by omega) (by omega)
      simp only [w6] at *)
    all_goals try (refine Vc.mk ?_; first | omega | (simp only [List.length_nil]; omega) | (refine ⟨?_, ?_, ?_, ?_⟩ <;> first | omega | (simp only [List.length_nil]; omega)))
    all_goals try (first | exact Nat.le_trans hF (Nat.le_trans hMl (Nat.le_of_ble_eq_true rfl)) | exact Nat.le_trans hG (Nat.le_trans hMl (Nat.le_of_ble_eq_true rfl)))
    all_goals try (exact ⟨⟨0, 0, 0, [], [], by omega, by omega, by omega, by omega, by simp, by simp, by simp, rfl, rfl, rfl, rfl, rfl⟩⟩)
    all_goals try (exact ⟨⟨0, rfl, rfl, Nat.zero_le _, fun _ => rfl, fun h => absurd h (by omega)⟩⟩)
    all_goals try (exact ⟨⟨0, rfl, rfl, Nat.zero_le _⟩⟩)
    all_goals try (
      refine ⟨⟨n + 1, _, _, _, _, ?_, ?_, ?_, ?_, a2, b2, b3, ?_, (Int.toNat_of_nonneg ?_).symm, (Int.toNat_of_nonneg ?_).symm, rfl, rfl⟩, ?_⟩ <;> omega)
    all_goals try (
      refine ⟨⟨j + 1, rfl, ?_, ?_, ?_, fun _ => rfl⟩, trivial⟩ <;> omega)
    all_goals try (
      refine ⟨⟨i + 1, rfl, ?_, ?_⟩, trivial⟩ <;> omega)
    all_goals try (
      exfalso
      have h := apply_any (act := false) (v := (x : Int)) (to := (x : Int) + 1) (add := add) ‹L.any (hitI q.card q.owner q.id) = true›
      simp_all
      done)
    all_goals try (
      exfalso
      have h := for_at ‹j < (forI q.card q.owner q.id q.act M).length›
      obtain ⟨f1, f2, f3, f4, f5⟩ := h
      simp only [zIt] at *
      first
        | contradiction
        | (rcases Nat.eq_zero_or_pos j with h0 | h0
           · have := g2 h0; omega
           · have := g3 h0; have := f4 h0; omega))
    all_goals try (
      exfalso
      have h := for_at ‹i < (forI q.card q.owner q.id (q.act + 1) M).length›
      obtain ⟨f1, f2, f3, f4, f5⟩ := h
      simp only [zIt] at *
      omega)
    all_goals try (refine Res.mk ?_; first | omega | (rw [hY]; omega) | (exfalso; omega))
    all_goals (exfalso; omega)
  · exact h.fail.elim

end Go.Proofs.Ythbmllekbbfobaa.Sx
