import Derived.Test.YthbmllekbbfobaaProg
import Derived.Test.YthbmllekbbfobaaSxU
import Derived.IntWalk
import Derived.Test.YthbmllekbbfobaaL4r
/-! lists, Get -/
namespace Go.Proofs.Ythbmllekbbfobaa.Sx
open Go
set_option linter.unusedVariables false
set_option linter.unusedSimpArgs false
set_option maxRecDepth 100000

def T_slices_Clone_api_Item_api_Item : TT := [(3, ⟨.int .i64, 1, 8, [.int .i64 0], some .int⟩),
  (4, ⟨.bool, 1, 1, [.bool false], some .bool⟩),
  (22, ⟨.slice 52, 1, 24, [.slice none 0 0], none⟩),
  (52, ⟨.strct [(0, 3), (1, 3), (2, 3), (3, 3), (4, 3)], 5, 40, [.int .i64 0, .int .i64 0, .int .i64 0, .int .i64 0, .int .i64 0], some .item⟩)]
theorem tOk_slices_Clone_api_Item_api_Item : TOk Try.prog T_slices_Clone_api_Item_api_Item := tOk_of (by kernel_rfl)
def sp_slices_Clone_api_Item_api_Item : Spec := fun args hp => match args, hp with
  | [.slF 0], [(0, .row o_b .item b)] => .vc (b.length ≤ 1099511627776) (.slF 2000) [(2000, some (.row true .item b))]
  | _, _ => .fail "slices_Clone_api_Item_api_Item"
abbrev k_slices_Clone_api_Item_api_Item : List (Option RK) := [some .item]
def a_slices_Clone_api_Item_api_Item : List SV → List (Nat × VB) → Anns := fun _ _ => []
set_option maxHeartbeats 20000000 in
theorem ok_slices_Clone_api_Item_api_Item : GOk Try.prog 69 (lift k_slices_Clone_api_Item_api_Item sp_slices_Clone_api_Item_api_Item) := by
  refine pf_ok (T := T_slices_Clone_api_Item_api_Item) (Γ := []) tOk_slices_Clone_api_Item_api_Item (gOks_nil _) mixed Try.func69 (c := body Try.f69) (by kernel_rfl) (by kernel_rfl) k_slices_Clone_api_Item_api_Item sp_slices_Clone_api_Item_api_Item (by kernel_rfl) (by kernel_rfl) a_slices_Clone_api_Item_api_Item ?_
  intro args hp s u hfit h
  unfold sp_slices_Clone_api_Item_api_Item at h
  split at h
  · rename_i o_b b
    obtain ⟨hvc, rfl, rfl⟩ := h.vc
    clear h hfit
    change List Item at b
    conv => whnf
    repeat' (first
      | (refine And.intro ?_ ?_ <;> try conv => whnf)
      | (intro hh; first | (cases hh; done) | conv => whnf))
    all_goals try first | rfl | kernel_rfl
    all_goals try simp only [decide_eq_true_eq, decide_eq_false_iff_not] at *
    all_goals try simp only [Key_eta, Share_eta, Journey_eta, Batch_eta, FieldT_eta, OpB_eta, Product_eta, Item_eta, Delta_eta, Elem_eta, Rule_eta, Do10_eta, Ask_eta, Key_beq, Share_beq, Journey_beq, FieldT_beq, Product_beq, Item_beq, Do10_beq, Ask_beq, toNat0, toNat1, toNat2, toNat3, toNat4, toNat5, toNat6, toNat7, toNat8, toNat9, toNat10, toNat11, toNat12, toNat13, toNat14, toNat15, toNat16, toNat17, toNat18, toNat19, iA, iOf, atS, rwA, castK, zK, true_and, and_true, decide_eq_true_eq, decide_eq_false_iff_not, beq_iff_eq, bne_iff_ne, beq_eq_false_iff_ne, bne_eq_false_iff_eq, Bool.not_eq_true', Bool.not_eq_false', Bool.not_eq_true, Bool.not_eq_false, Nat.succ_eq_add_one, Int.not_lt, Int.not_le, gt_iff_lt, ge_iff_le, show bytesS T_slices_Clone_api_Item_api_Item 22 = 40 from rfl] at *
    all_goals first
      | (refine Vc.mk ?_; simp only [List.length_nil]; omega)
      | (refine Res.mk ?_; exact List.nil_append _)
      | (refine Res.mk ?_; (have hl := ‹_ = true → _› ‹(bif false then !_ else _) = true›); first | exact (List.eq_nil_of_length_eq_zero hl).symm | (rw [hl, List.take_zero]))
  · exact h.fail.elim

def T_slices_Clone_api_Item_api_ItemP : TT := [(3, ⟨.int .i64, 1, 8, [.int .i64 0], some .int⟩),
  (4, ⟨.bool, 1, 1, [.bool false], some .bool⟩),
  (22, ⟨.slice 52, 1, 24, [.slice none 0 0], none⟩),
  (52, ⟨.strct [(0, 3), (1, 3), (2, 3), (3, 3), (4, 3)], 5, 40, [.int .i64 0, .int .i64 0, .int .i64 0, .int .i64 0, .int .i64 0], some .item⟩)]
theorem tOk_slices_Clone_api_Item_api_ItemP : TOk Try.prog T_slices_Clone_api_Item_api_ItemP := tOk_of (by kernel_rfl)
def sp_slices_Clone_api_Item_api_ItemP : Spec := fun args hp => match args, hp with
  | [.slP 0 b_i b_n], [(0, .row o_b .item b)] => .vc (((b.drop b_i).take b_n).length ≤ 1099511627776) (.slF 2000) [(2000, some (.row true .item ((b.drop b_i).take b_n)))]
  | _, _ => .fail "slices_Clone_api_Item_api_ItemP"
abbrev k_slices_Clone_api_Item_api_ItemP : List (Option RK) := [some .item]
def a_slices_Clone_api_Item_api_ItemP : List SV → List (Nat × VB) → Anns := fun _ _ => []
set_option maxHeartbeats 20000000 in
theorem ok_slices_Clone_api_Item_api_ItemP : GOk Try.prog 69 (lift k_slices_Clone_api_Item_api_ItemP sp_slices_Clone_api_Item_api_ItemP) := by
  refine pf_ok (T := T_slices_Clone_api_Item_api_ItemP) (Γ := []) tOk_slices_Clone_api_Item_api_ItemP (gOks_nil _) mixed Try.func69 (c := body Try.f69) (by kernel_rfl) (by kernel_rfl) k_slices_Clone_api_Item_api_ItemP sp_slices_Clone_api_Item_api_ItemP (by kernel_rfl) (by kernel_rfl) a_slices_Clone_api_Item_api_ItemP ?_
  intro args hp s u hfit h
  unfold sp_slices_Clone_api_Item_api_ItemP at h
  split at h
  · rename_i b_i b_n o_b b
    obtain ⟨hvc, rfl, rfl⟩ := h.vc
    clear h
    change List Item at b
    conv => whnf
    repeat' (first
      | (refine And.intro ?_ ?_ <;> try conv => whnf)
      | (intro hh; first | (cases hh; done) | conv => whnf))
    all_goals try first | rfl | kernel_rfl
    all_goals try simp only [decide_eq_true_eq, decide_eq_false_iff_not] at *
    all_goals try simp only [Key_eta, Share_eta, Journey_eta, Batch_eta, FieldT_eta, OpB_eta, Product_eta, Item_eta, Delta_eta, Elem_eta, Rule_eta, Do10_eta, Ask_eta, Key_beq, Share_beq, Journey_beq, FieldT_beq, Product_beq, Item_beq, Do10_beq, Ask_beq, toNat0, toNat1, toNat2, toNat3, toNat4, toNat5, toNat6, toNat7, toNat8, toNat9, toNat10, toNat11, toNat12, toNat13, toNat14, toNat15, toNat16, toNat17, toNat18, toNat19, iA, iOf, atS, rwA, castK, zK, true_and, and_true, decide_eq_true_eq, decide_eq_false_iff_not, beq_iff_eq, bne_iff_ne, beq_eq_false_iff_ne, bne_eq_false_iff_eq, Bool.not_eq_true', Bool.not_eq_false', Bool.not_eq_true, Bool.not_eq_false, Nat.succ_eq_add_one, Int.not_lt, Int.not_le, gt_iff_lt, ge_iff_le, show bytesS T_slices_Clone_api_Item_api_ItemP 22 = 40 from rfl] at *
    all_goals first
      | (refine Vc.mk ?_; simp only [List.length_nil]; omega)
      | (refine Res.mk ?_; exact List.nil_append _)
      | (refine Res.mk ?_; (have hl := ‹_ = true → _› ‹(bif false then !_ else _) = true›); first | exact (List.eq_nil_of_length_eq_zero hl).symm | (rw [hl, List.take_zero]))
  · exact h.fail.elim

def T_bits_Reader_Err : TT := [(3, ⟨.int .i64, 1, 8, [.int .i64 0], some .int⟩),
  (5, ⟨.int .u8, 1, 1, [.int .u8 0], some .u8⟩),
  (25, ⟨.slice 5, 1, 24, [.slice none 0 0], none⟩),
  (27, ⟨.int .i64, 1, 8, [.int .i64 0], some .int⟩),
  (138, ⟨.ptr, 1, 8, [.pointer none], none⟩),
  (200, ⟨.strct [(0, 25), (1, 3), (2, 27)], 3, 40, [.slice none 0 0, .int .i64 0, .int .i64 0], none⟩)]
theorem tOk_bits_Reader_Err : TOk Try.prog T_bits_Reader_Err := tOk_of (by kernel_rfl)
def sp_bits_Reader_Err : Spec := fun args hp => match args, hp with
  | [.ptr 0 0], [(0, .cells [.slF 1, .val (.int .i64 r_at), .val (.int .i64 r_e)]), (1, .row o_r_b .u8 r_b)] => .ok (iv r_e) []
  | _, _ => .fail "bits_Reader_Err"
abbrev k_bits_Reader_Err : List (Option RK) := [none]
def a_bits_Reader_Err : List SV → List (Nat × VB) → Anns := fun _ _ => []
set_option maxHeartbeats 20000000 in
theorem ok_bits_Reader_Err : GOk Try.prog 67 (lift k_bits_Reader_Err sp_bits_Reader_Err) := by
  refine pf_ok (T := T_bits_Reader_Err) (Γ := []) tOk_bits_Reader_Err (gOks_nil _) mixed Try.func67 (c := body Try.f67) (by kernel_rfl) (by kernel_rfl) k_bits_Reader_Err sp_bits_Reader_Err (by kernel_rfl) (by kernel_rfl) a_bits_Reader_Err ?_
  intro args hp s u hfit h
  unfold sp_bits_Reader_Err at h
  split at h
  · rename_i r_at r_e o_r_b r_b
    obtain ⟨rfl, rfl⟩ := h.ok
    clear h hfit
    conv => whnf
    repeat' (first
      | (refine And.intro ?_ ?_ <;> try conv => whnf)
      | (intro hh; first | (cases hh; done) | conv => whnf))
    all_goals try first | rfl | kernel_rfl
    all_goals try simp only [decide_eq_true_eq, decide_eq_false_iff_not] at *
    all_goals try simp only [Key_eta, Share_eta, Journey_eta, Batch_eta, FieldT_eta, OpB_eta, Product_eta, Item_eta, Delta_eta, Elem_eta, Rule_eta, Do10_eta, Ask_eta, Key_beq, Share_beq, Journey_beq, FieldT_beq, Product_beq, Item_beq, Do10_beq, Ask_beq, toNat0, toNat1, toNat2, toNat3, toNat4, toNat5, toNat6, toNat7, toNat8, toNat9, toNat10, toNat11, toNat12, toNat13, toNat14, toNat15, toNat16, toNat17, toNat18, toNat19, iA, iOf, atS, rwA, castK, zK, true_and, and_true, decide_eq_true_eq, decide_eq_false_iff_not, beq_iff_eq, bne_iff_ne, beq_eq_false_iff_ne, bne_eq_false_iff_eq, Bool.not_eq_true', Bool.not_eq_false', Bool.not_eq_true, Bool.not_eq_false, Nat.succ_eq_add_one, Int.not_lt, Int.not_le, gt_iff_lt, ge_iff_le, show bytesS T_bits_Reader_Err 25 = 1 from rfl] at *
    all_goals exact Res.mk trivial
  · exact h.fail.elim

def T_lists_Get : TT := [(3, ⟨.int .i64, 1, 8, [.int .i64 0], some .int⟩),
  (4, ⟨.bool, 1, 1, [.bool false], some .bool⟩),
  (5, ⟨.int .u8, 1, 1, [.int .u8 0], some .u8⟩),
  (22, ⟨.slice 52, 1, 24, [.slice none 0 0], none⟩),
  (24, ⟨.strct [(0, 3), (1, 22), (2, 22)], 3, 56, [.int .i64 0, .slice none 0 0, .slice none 0 0], some .delta⟩),
  (25, ⟨.slice 5, 1, 24, [.slice none 0 0], none⟩),
  (27, ⟨.int .i64, 1, 8, [.int .i64 0], some .int⟩),
  (41, ⟨.slice 3, 1, 24, [.slice none 0 0], none⟩),
  (52, ⟨.strct [(0, 3), (1, 3), (2, 3), (3, 3), (4, 3)], 5, 40, [.int .i64 0, .int .i64 0, .int .i64 0, .int .i64 0, .int .i64 0], some .item⟩),
  (125, ⟨.slice 126, 1, 24, [.slice none 0 0], none⟩),
  (126, ⟨.ptr, 1, 8, [.pointer none], none⟩),
  (128, ⟨.ptr, 1, 8, [.pointer none], none⟩),
  (138, ⟨.ptr, 1, 8, [.pointer none], none⟩)]
theorem tOk_lists_Get : TOk Try.prog T_lists_Get := tOk_of (by kernel_rfl)
def sp_lists_Get : Spec := fun args hp => match args, hp with
  | [.slF 0], [(0, .row o_b .u8 b)] => .vc (isB b ∧ b.length ≤ 1048576) (.tup [.agg [iv (getD_ b).to, .slF 2000, .slF 2001], iv (getDE b)]) [(2000, some (.row true .item (getD_ b).add)), (2001, some (.row true .item (getD_ b).off))]
  | _, _ => .fail "lists_Get"
abbrev k_lists_Get : List (Option RK) := [some .u8]
def a_lists_Get : List SV → List (Nat × VB) → Anns := fun args hp => match args, hp with
  | [.slF 0], [(0, .row o_b .u8 b)] => [(14, fun S => .inv [pOf (S.get 6), pOf (S.get 4)] [cellOf S (pOf (S.get 4)) 0] [] fun ids vs rs => { cars := [.i 68 .i64, .row (atN ids 0) true .item, .blk (atN ids 1) [.fix ((atS vs 0)), .i .i64, .i .i64]], inv := fun ((i, l, (_, a, e, _), _) : Int × List Item × (Unit × Int × Int × Unit) × Unit) => IGi b (cntD b) i l a e, mu := fun ((i, l, (_, a, e, _), _) : Int × List Item × (Unit × Int × Int × Unit) × Unit) => cntD b - i.toNat }),
    (17, fun S => .unroll 6)]
  | _, _ => []
set_option maxHeartbeats 20000000 in
theorem ok_lists_Get : GOk Try.prog 18 (lift k_lists_Get sp_lists_Get) := by
  refine pf_ok (T := T_lists_Get) (Γ := (65, lift k_bits_Read sp_bits_Read) :: (66, lift k_bits_Reader_Take sp_bits_Reader_Take) :: (67, lift k_bits_Reader_Err sp_bits_Reader_Err) :: (68, lift k_bits_Reader_Left sp_bits_Reader_Left) :: (59, lift k_lists_fields sp_lists_fields) :: (69, lift k_slices_Clone_api_Item_api_ItemP sp_slices_Clone_api_Item_api_ItemP) :: []) tOk_lists_Get (gOks_cons ok_bits_Read (gOks_cons ok_bits_Reader_Take (gOks_cons ok_bits_Reader_Err (gOks_cons ok_bits_Reader_Left (gOks_cons ok_lists_fields (gOks_cons ok_slices_Clone_api_Item_api_ItemP (gOks_nil _))))))) mixed Try.func18 (c := body Try.f18) (by kernel_rfl) (by kernel_rfl) k_lists_Get sp_lists_Get (by kernel_rfl) (by kernel_rfl) a_lists_Get ?_
  intro args hp s u hfit h
  unfold sp_lists_Get at h
  split at h
  · rename_i o_b b
    obtain ⟨hvc, rfl, rfl⟩ := h.vc
    clear h hfit
    change List Int at b
    conv => whnf
    repeat' (first
      | (refine And.intro ?_ ?_ <;> try conv => whnf)
      | (intro hh; first | (cases hh; done) | conv => whnf))
    all_goals try first | rfl | kernel_rfl
    all_goals try simp only [decide_eq_true_eq, decide_eq_false_iff_not] at *
    all_goals try simp only [Key_eta, Share_eta, Journey_eta, Batch_eta, FieldT_eta, OpB_eta, Product_eta, Item_eta, Delta_eta, Elem_eta, Rule_eta, Do10_eta, Ask_eta, Key_beq, Share_beq, Journey_beq, FieldT_beq, Product_beq, Item_beq, Do10_beq, Ask_beq, toNat0, toNat1, toNat2, toNat3, toNat4, toNat5, toNat6, toNat7, toNat8, toNat9, toNat10, toNat11, toNat12, toNat13, toNat14, toNat15, toNat16, toNat17, toNat18, toNat19, iA, iOf, atS, rwA, castK, zK, true_and, and_true, decide_eq_true_eq, decide_eq_false_iff_not, beq_iff_eq, bne_iff_ne, beq_eq_false_iff_ne, bne_eq_false_iff_eq, Bool.not_eq_true', Bool.not_eq_false', Bool.not_eq_true, Bool.not_eq_false, Nat.succ_eq_add_one, Int.not_lt, Int.not_le, gt_iff_lt, ge_iff_le, show bytesS T_lists_Get 22 = 40 from rfl, show bytesS T_lists_Get 25 = 1 from rfl, show bytesS T_lists_Get 41 = 8 from rfl, show bytesS T_lists_Get 125 = 8 from rfl] at *
    all_goals obtain ⟨hB, hL⟩ := hvc
    all_goals rcases Nat.lt_or_ge b.length 6 with h6 | h6
    all_goals try (
      have hE := headE_lt h6
      simp only [hE] at *)
    all_goals try (have h6' : b.length < 6 := h6; exfalso; omega)
    all_goals try (
      have hE := headE_ok h6
      have hA := headAt_ok h6
      simp only [show takeN b 0 0 [32, 8, 8] = headD b from rfl, hE, hA] at *)
    all_goals try (
      have hr := head_rng hB h6
      have hc := cnt_ok hB h6
      obtain ⟨r0, r1, r2, r3⟩ := hr
      obtain ⟨c1, c2, c3⟩ := hc
      have c4 : IntKind.i64.wrap (160 * (cntD b : Int)) = 160 * cntD b := wrap64 (by omega) (by omega)
      have c5 : (160 * (cntD b : Int)) = 160 * ((headD b).getD 1 0 + (headD b).getD 2 0) := by rw [c2]
      simp only [c1, Int.toNat_natCast, List.length_replicate, c4] at *)
    all_goals try (refine Vc.mk ?_; first | omega | (refine ⟨?_, ?_, ?_, ?_, ?_⟩ <;> first | omega | decide | exact ⟨hB, by omega, by decide⟩))
    all_goals try (
      obtain ⟨j, hj, rfl, rfl, rfl, rfl, hb⟩ := ‹IGi _ _ _ _ _ _›
      rcases Nat.lt_or_ge j (cntD b) with hj' | hj')
    all_goals try (exfalso; omega)
    all_goals try (
      have hf := five hj' ‹160 * (cntD b : Int) ≤ 8 * (b.length : Int) - 48›
      obtain ⟨⟨f1, f2, f3⟩, ⟨g1, g2, g3⟩, ⟨k1, k2, k3⟩, ⟨p1, p2, p3⟩, ⟨q1, q2, q3⟩⟩ := hf
      have hlen := items_lt hj' (b.drop 6)
      have hset : ∀ x : Item, ((itemsAt j (b.drop 6) ++ List.replicate (cntD b - j) zI).set j x).getD j ⟨0, 0, 0, 0, 0⟩ = x := fun x => getD_set hlen
      have hlen2 := hlen
      simp only [Int.toNat_natCast, List.set_set, f1, f2, f3, g1, g2, g3, k1, k2, k3, p1, p2, p3, q1, q2, q3, List.length_set, hset] at *)
    all_goals try (refine Vc.mk ?_; first | omega | decide | (refine ⟨?_, ?_, ?_, ?_, ?_⟩ <;> first | omega | decide | exact ⟨hB, by omega, by decide⟩))
    all_goals try (refine Vc.mk ?_; exact ⟨Int.le_refl _, Int.zero_lt_one⟩)
    all_goals try (
      have he := Nat.le_antisymm hj hj'
      subst he
      simp only [Nat.sub_self, List.replicate_zero, List.append_nil] at *)
    all_goals try (refine Vc.mk ?_; rw [itemsAt_length]; omega)
    all_goals try (refine Vc.mk ?_; simp only [List.length_take, List.length_drop, itemsAt_length]; omega)
    all_goals try simp only [List.getD_cons_zero] at *
    all_goals try (
      have hbig := badI_big (x := itemAt ((b.drop 6).drop (20 * j))) (by rw [itemAt_eq]; first | exact .inl ‹_› | exact .inr (.inl ‹_›) | exact .inr (.inr (.inl ‹_›)) | exact .inr (.inr (.inr (.inl ‹_›))) | exact .inr (.inr (.inr (.inr ‹_›))))
      have h12 := getDE_at h6 ‹_› ‹_› ‹_› ‹_› (by omega) hj' hbig
      exact Res.mk (by simp [getD_, h12]))
    · have : getDE b = 10 := if_pos h6
      exact Res.mk (by simp [getD_, this])
    · have := getDE_head h6 (.inl ‹_›)
      exact Res.mk (by simp [getD_, this])
    · have := getDE_head h6 (.inr (.inl ‹_›))
      exact Res.mk (by simp [getD_, this])
    · have := getDE_head h6 (.inr (.inr (.inl ‹_›)))
      exact Res.mk (by simp [getD_, this])
    · have := getDE_head h6 (.inr (.inr (.inr ‹_›)))
      exact Res.mk (by simp [getD_, this])
    · have : getDE b = 10 := by unfold getDE; rw [if_neg (by omega), if_neg (by omega), if_pos (by omega)]
      exact Res.mk (by simp [getD_, this])
    · have : getDE b = 14 := by unfold getDE; rw [if_neg (by omega), if_neg (by omega), if_neg (by omega), if_pos (by omega)]
      exact Res.mk (by simp [getD_, this])
    · exact ⟨⟨0, Nat.zero_le _, rfl, by simp [itemsAt, zI], rfl, rfl, rfl⟩⟩
    · rw [← itemAt_eq, items_set hj']
      refine ⟨⟨j + 1, hj', by rw [wrap64] <;> omega, rfl, by omega, rfl, ?_⟩, by rw [wrap64] <;> omega⟩
      rw [itemsAt_snoc, any_snoc, hb, badI_ok hB ‹_› ‹_› ‹_› ‹_› ‹_›]; rfl
    · have : getDE b = 0 := by
        unfold getDE
        rw [if_neg (by omega), if_neg (by omega), if_neg (by omega), if_neg (by omega), if_neg (by rw [hb]; simp)]
      refine Res.mk ?_
      rw [getD_, if_pos this, this, List.take_of_length_le (by simp)]
      exact ⟨rfl, by simp, rfl, rfl⟩
  · exact h.fail.elim

end Go.Proofs.Ythbmllekbbfobaa.Sx
