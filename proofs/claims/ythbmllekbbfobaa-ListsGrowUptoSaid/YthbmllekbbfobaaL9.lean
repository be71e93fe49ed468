import Derived.Test.YthbmllekbbfobaaProg
import Derived.Test.YthbmllekbbfobaaSxU
import Derived.IntWalk
import Derived.Test.YthbmllekbbfobaaL9r
/-! ListsOff -/
namespace Go.Proofs.Ythbmllekbbfobaa.Sx
open Go
set_option linter.unusedVariables false
set_option linter.unusedSimpArgs false
set_option maxRecDepth 100000

def T_fareboxlaw12_ListsOff : TT := [(3, ⟨.int .i64, 1, 8, [.int .i64 0], some .int⟩),
  (4, ⟨.bool, 1, 1, [.bool false], some .bool⟩),
  (22, ⟨.slice 52, 1, 24, [.slice none 0 0], none⟩),
  (24, ⟨.strct [(0, 3), (1, 22), (2, 22)], 3, 56, [.int .i64 0, .slice none 0 0, .slice none 0 0], some .delta⟩),
  (27, ⟨.int .i64, 1, 8, [.int .i64 0], some .int⟩),
  (42, ⟨.ptr, 1, 8, [.pointer none], none⟩),
  (44, ⟨.strct [(0, 3), (1, 22)], 2, 32, [.int .i64 0, .slice none 0 0], none⟩),
  (46, ⟨.strct [(0, 44)], 2, 32, [.int .i64 0, .slice none 0 0], none⟩),
  (52, ⟨.strct [(0, 3), (1, 3), (2, 3), (3, 3), (4, 3)], 5, 40, [.int .i64 0, .int .i64 0, .int .i64 0, .int .i64 0, .int .i64 0], some .item⟩)]
theorem tOk_fareboxlaw12_ListsOff : TOk Try.prog T_fareboxlaw12_ListsOff := tOk_of (by kernel_rfl)
def sp_fareboxlaw12_ListsOff : Spec := fun args hp => match args, hp with
  | [.agg [.val (.int .i64 d_to), .slF 0, .slF 1], .val (.int .i64 at_)], [(0, .row o_d_add .item d_add), (1, .row o_d_off .item d_off)] => .vc ((⟨d_to, d_add, d_off⟩ : Delta).add.length ≤ 1048576 ∧ -9223372036854775808 ≤ at_ ∧ at_ ≤ 9223372036854775807) (bv true) []
  | _, _ => .fail "fareboxlaw12_ListsOff"
abbrev k_fareboxlaw12_ListsOff : List (Option RK) := [none, none]
def a_fareboxlaw12_ListsOff : List SV → List (Nat × VB) → Anns := fun _ _ => []
set_option maxHeartbeats 20000000 in
theorem ok_fareboxlaw12_ListsOff : GOk Try.prog 5 (lift k_fareboxlaw12_ListsOff sp_fareboxlaw12_ListsOff) := by
  refine pf_ok (T := T_fareboxlaw12_ListsOff) (Γ := (14, lift k_fareboxlaw12_awake sp_fareboxlaw12_awake) :: (16, lift k_fareboxlaw12_copied sp_fareboxlaw12_copied) :: (15, lift k_lists_Put sp_lists_Put) :: (18, lift k_lists_Get sp_lists_Get) :: (22, lift k_lists_Hot_Apply sp_lists_Hot_Apply) :: (25, lift k_lists_Hot_Has sp_lists_Hot_Has) :: (21, lift k_lists_list_Version sp_lists_list_Version) :: (23, lift k_lists_list_Items sp_lists_list_Items) :: (17, lift k_fareboxref12_Put sp_fareboxref12_Put) :: (20, lift k_fareboxref12_Get sp_fareboxref12_Get) :: (19, lift k_fareboxref12_SameV sp_fareboxref12_SameV) :: (24, lift k_fareboxref12_In sp_fareboxref12_In) :: []) tOk_fareboxlaw12_ListsOff (gOks_cons ok_fareboxlaw12_awake (gOks_cons ok_fareboxlaw12_copied (gOks_cons ok_lists_Put (gOks_cons ok_lists_Get (gOks_cons ok_lists_Hot_Apply (gOks_cons ok_lists_Hot_Has (gOks_cons ok_lists_list_Version (gOks_cons ok_lists_list_Items (gOks_cons ok_fareboxref12_Put (gOks_cons ok_fareboxref12_Get (gOks_cons ok_fareboxref12_SameV (gOks_cons ok_fareboxref12_In (gOks_nil _))))))))))))) mixed Try.func5 (c := body Try.f5) (by kernel_rfl) (by kernel_rfl) k_fareboxlaw12_ListsOff sp_fareboxlaw12_ListsOff (by kernel_rfl) (by kernel_rfl) a_fareboxlaw12_ListsOff ?_
  intro args hp s u hfit h
  unfold sp_fareboxlaw12_ListsOff at h
  split at h
  · rename_i d_to at_ o_d_add d_add o_d_off d_off
    obtain ⟨hvc, rfl, rfl⟩ := h.vc
    clear h hfit
    conv => whnf
    repeat' (first
      | (refine And.intro ?_ ?_ <;> try conv => whnf)
      | (intro hh; first | (cases hh; done) | conv => whnf))
    all_goals try first | rfl | kernel_rfl
    all_goals try simp only [decide_eq_true_eq, decide_eq_false_iff_not] at *
    all_goals try simp only [Key_eta, Share_eta, Journey_eta, Batch_eta, FieldT_eta, OpB_eta, Product_eta, Item_eta, Delta_eta, Elem_eta, Rule_eta, Do10_eta, Ask_eta, Key_beq, Share_beq, Journey_beq, FieldT_beq, Product_beq, Item_beq, Do10_beq, Ask_beq, toNat0, toNat1, toNat2, toNat3, toNat4, toNat5, toNat6, toNat7, toNat8, toNat9, toNat10, toNat11, toNat12, toNat13, toNat14, toNat15, toNat16, toNat17, toNat18, toNat19, iA, iOf, atS, rwA, castK, zK, true_and, and_true, decide_eq_true_eq, decide_eq_false_iff_not, beq_iff_eq, bne_iff_ne, beq_eq_false_iff_ne, bne_eq_false_iff_eq, Bool.not_eq_true', Bool.not_eq_false', Bool.not_eq_true, Bool.not_eq_false, Nat.succ_eq_add_one, Int.not_lt, Int.not_le, gt_iff_lt, ge_iff_le, show bytesS T_fareboxlaw12_ListsOff 22 = 40 from rfl, List.nil_append] at *
    all_goals obtain ⟨hA, ha0, ha1⟩ := hvc
    all_goals try (exact Res.mk trivial)
    all_goals try (refine Vc.mk ?_; first | assumption | (simp only [List.length_nil]; omega))
    all_goals try (
      have hf := off1 ‹applyE false 0 [] 1 d_add [] = 0›
      obtain ⟨v1, F⟩ := hf
      simp only [v1] at *
      generalize applyL false 0 [] 1 d_add [] = A at *
      have hl := F.len)
    all_goals try (
      have hk := idx_ok (a := at_) (n := A.length) (by assumption) (by omega)
      obtain ⟨k0, k1⟩ := hk
      generalize (IntKind.i64.wrap (at_.tmod (A.length : Int) + (A.length : Int))).tmod (A.length : Int) = k at *
      have hx : A.getD k.toNat ⟨0, 0, 0, 0, 0⟩ ∈ A := mem_getD (by omega)
      generalize A.getD k.toNat ⟨0, 0, 0, 0, 0⟩ = x at *
      have h2 := off2 F hx
      obtain ⟨a1, a2, a3⟩ := h2
      have h3 := off3 F hx
      obtain ⟨b1, b2, b3⟩ := h3
      have h4 := off_one F.nd hx
      simp only [a1, a2, a3, b1, b2, b3] at *)
    all_goals try (
      have hz : IntKind.i64.wrap (((offI [x] A ++ [x]).length : Int) - 1) = (offI [x] A).length := by rw [List.length_append]; simp only [List.length_cons, List.length_nil]; rw [wrap64 (by omega) (by omega)]; omega
      have hw : IntKind.i64.wrap ((A.length : Int) - 1) = A.length - 1 := wrap64 (by omega) (by omega)
      have hno : x ∉ offI [x] A := by rw [offI_mem]; simp
      have hg : (offI [x] A ++ [x]).getD (offI [x] A).length ⟨0, 0, 0, 0, 0⟩ = x := by simp [List.getD]
      have hh : (offI [x] A ++ [x]).any (hitI x.card x.owner x.id) = true := by rw [List.any_append, List.any_cons, hot_hit]; simp
      simp only [hz, hw] at *)
    all_goals try (refine Vc.mk ?_; first | omega | (simp only [List.length_append, List.length_cons, List.length_nil]; omega))
    all_goals try (exact Res.mk trivial)
    all_goals (
      exfalso
      first
        | contradiction
        | omega
        | (simp only [List.length_append, List.length_cons, List.length_nil, Int.toNat_natCast] at *; omega)
        | (simp only [Int.toNat_natCast] at *; contradiction)
        | (simp_all; done)
        | exact absurd (hh.symm.trans ‹_›) (by decide))
  · exact h.fail.elim

def T_fareboxlaw12_ListsAgain : TT := [(3, ⟨.int .i64, 1, 8, [.int .i64 0], some .int⟩),
  (4, ⟨.bool, 1, 1, [.bool false], some .bool⟩),
  (22, ⟨.slice 52, 1, 24, [.slice none 0 0], none⟩),
  (24, ⟨.strct [(0, 3), (1, 22), (2, 22)], 3, 56, [.int .i64 0, .slice none 0 0, .slice none 0 0], some .delta⟩),
  (27, ⟨.int .i64, 1, 8, [.int .i64 0], some .int⟩),
  (40, ⟨.slice 24, 1, 24, [.slice none 0 0], none⟩),
  (41, ⟨.slice 3, 1, 24, [.slice none 0 0], none⟩),
  (42, ⟨.ptr, 1, 8, [.pointer none], none⟩),
  (44, ⟨.strct [(0, 3), (1, 22)], 2, 32, [.int .i64 0, .slice none 0 0], none⟩),
  (46, ⟨.strct [(0, 44)], 2, 32, [.int .i64 0, .slice none 0 0], none⟩),
  (52, ⟨.strct [(0, 3), (1, 3), (2, 3), (3, 3), (4, 3)], 5, 40, [.int .i64 0, .int .i64 0, .int .i64 0, .int .i64 0, .int .i64 0], some .item⟩)]
theorem tOk_fareboxlaw12_ListsAgain : TOk Try.prog T_fareboxlaw12_ListsAgain := tOk_of (by kernel_rfl)
def sp_fareboxlaw12_ListsAgain : Spec := fun args hp => match args, hp with
  | [.slF 0, .slF 1], [(0, .row o_ds .delta ds), (1, .row o_order .int order)] => .vc (ds.length ≤ 1048576 ∧ order.length ≤ 1048576 ∧ (∀ d ∈ ds, d.add.length ≤ 1048576 ∧ d.off.length ≤ 1048576) ∧ ∀ n ∈ order, -9223372036854775808 ≤ n ∧ n ≤ 9223372036854775807) (bv true) []
  | _, _ => .fail "fareboxlaw12_ListsAgain"
abbrev k_fareboxlaw12_ListsAgain : List (Option RK) := [some .delta, some .int]
def a_fareboxlaw12_ListsAgain : List SV → List (Nat × VB) → Anns := fun args hp => match args, hp with
  | [.slF 0, .slF 1], [(0, .row o_ds .delta ds), (1, .row o_order .int order)] => [(6, fun S => .inv [pOf (S.get 5), pOf (S.get 6)] [] [] fun ids vs rs => { cars := [.i 7 .i64, .i 8 .i64, .blk (atN ids 0) [.i .i64, .r true .item], .blk (atN ids 1) [.i .i64, .r true .item]], inv := fun ((n, i, (v, A, _), (v2, B, _), _) : Int × Int × (Int × List Item × Unit) × (Int × List Item × Unit) × Unit) => IAg ds i n v A v2 B, mu := fun ((n, i, (v, A, _), (v2, B, _), _) : Int × Int × (Int × List Item × Unit) × (Int × List Item × Unit) × Unit) => 30 - i.toNat }),
    (15, fun S => .inv [pOf (S.get 6)] [S.get 7] [pOf (cellOf S (pOf (S.get 6)) 1)] fun ids vs rs => { cars := [.i 10 .i64, .blk (atN ids 0) [.i .i64, .r true .item]], inv := fun ((k, (v2, B, _), _) : Int × (Int × List Item × Unit) × Unit) => IAi k v2 B ((iA vs 0)) ((rwA .item rs 0)), mu := fun ((k, (v2, B, _), _) : Int × (Int × List Item × Unit) × Unit) => 5 - k.toNat })]
  | _, _ => []
set_option maxHeartbeats 20000000 in
theorem ok_fareboxlaw12_ListsAgain : GOk Try.prog 4 (lift k_fareboxlaw12_ListsAgain sp_fareboxlaw12_ListsAgain) := by
  refine pf_ok (T := T_fareboxlaw12_ListsAgain) (Γ := (14, lift k_fareboxlaw12_awake sp_fareboxlaw12_awake) :: (16, lift k_fareboxlaw12_copied sp_fareboxlaw12_copied) :: (15, lift k_lists_Put sp_lists_Put) :: (18, lift k_lists_Get sp_lists_Get) :: (22, lift k_lists_Hot_Apply sp_lists_Hot_Apply) :: (25, lift k_lists_Hot_Has sp_lists_Hot_Has) :: (21, lift k_lists_list_Version sp_lists_list_Version) :: (23, lift k_lists_list_Items sp_lists_list_Items) :: (17, lift k_fareboxref12_Put sp_fareboxref12_Put) :: (20, lift k_fareboxref12_Get sp_fareboxref12_Get) :: (19, lift k_fareboxref12_SameV sp_fareboxref12_SameV) :: (24, lift k_fareboxref12_In sp_fareboxref12_In) :: []) tOk_fareboxlaw12_ListsAgain (gOks_cons ok_fareboxlaw12_awake (gOks_cons ok_fareboxlaw12_copied (gOks_cons ok_lists_Put (gOks_cons ok_lists_Get (gOks_cons ok_lists_Hot_Apply (gOks_cons ok_lists_Hot_Has (gOks_cons ok_lists_list_Version (gOks_cons ok_lists_list_Items (gOks_cons ok_fareboxref12_Put (gOks_cons ok_fareboxref12_Get (gOks_cons ok_fareboxref12_SameV (gOks_cons ok_fareboxref12_In (gOks_nil _))))))))))))) mixed Try.func4 (c := body Try.f4) (by kernel_rfl) (by kernel_rfl) k_fareboxlaw12_ListsAgain sp_fareboxlaw12_ListsAgain (by kernel_rfl) (by kernel_rfl) a_fareboxlaw12_ListsAgain ?_
  intro args hp s u hfit h
  unfold sp_fareboxlaw12_ListsAgain at h
  split at h
  · rename_i o_ds ds o_order order
    obtain ⟨hvc, rfl, rfl⟩ := h.vc
    clear h hfit
    change List Delta at ds
    change List Int at order
    conv => whnf
    repeat' (first
      | (refine And.intro ?_ ?_ <;> try conv => whnf)
      | (intro hh; first | (cases hh; done) | conv => whnf))
    all_goals try first | rfl | kernel_rfl
    all_goals try simp only [decide_eq_true_eq, decide_eq_false_iff_not] at *
    all_goals try simp only [Key_eta, Share_eta, Journey_eta, Batch_eta, FieldT_eta, OpB_eta, Product_eta, Item_eta, Delta_eta, Elem_eta, Rule_eta, Do10_eta, Ask_eta, Key_beq, Share_beq, Journey_beq, FieldT_beq, Product_beq, Item_beq, Do10_beq, Ask_beq, toNat0, toNat1, toNat2, toNat3, toNat4, toNat5, toNat6, toNat7, toNat8, toNat9, toNat10, toNat11, toNat12, toNat13, toNat14, toNat15, toNat16, toNat17, toNat18, toNat19, iA, iOf, atS, rwA, castK, zK, true_and, and_true, decide_eq_true_eq, decide_eq_false_iff_not, beq_iff_eq, bne_iff_ne, beq_eq_false_iff_ne, bne_eq_false_iff_eq, Bool.not_eq_true', Bool.not_eq_false', Bool.not_eq_true, Bool.not_eq_false, Nat.succ_eq_add_one, Int.not_lt, Int.not_le, gt_iff_lt, ge_iff_le, show bytesS T_fareboxlaw12_ListsAgain 22 = 40 from rfl, show bytesS T_fareboxlaw12_ListsAgain 40 = 56 from rfl, show bytesS T_fareboxlaw12_ListsAgain 41 = 8 from rfl, List.nil_append] at *
    all_goals obtain ⟨hA, hO, hD, hN⟩ := hvc
    all_goals try (
      have hex := ‹IAg _ _ _ _ _ _ _›
      obtain ⟨q, m, L, hq, hm, hL, rfl, rfl, rfl, rfl, rfl, rfl⟩ := hex)
    all_goals try (
      have w1 : IntKind.i64.wrap ((m : Int) + 1) = m + 1 := wrap64 (by omega) (by omega)
      have w2 : IntKind.i64.wrap ((q : Int) + 1) = q + 1 := wrap64 (by omega) (by omega)
      simp only [w1, w2, Int.toNat_natCast] at *)
    all_goals try (
      have hd := hD _ (mem_getD (d := (⟨0, [], []⟩ : Delta)) (show q < ds.length by omega))
      obtain ⟨d1, d2⟩ := hd
      generalize (ds.getD q ⟨0, [], []⟩).add = add at *
      generalize (ds.getD q ⟨0, [], []⟩).off = off at *)
    all_goals try (
      have ha := apply_ok ‹applyE false (m : Int) L (m + 1) add off = 0›
      obtain ⟨_, a1, a2, a3, a4⟩ := ha
      have hb := apply_old (act := false) (v := (m : Int) + 1) (L := nextI L add off) (to := m + 1) (add := add) (off := off) (Int.le_refl _)
      obtain ⟨b1, b2, b3⟩ := hb
      simp only [a3, a4, b1, b2, b3] at *)
    all_goals try (
      have hex := ‹IAi _ _ _ _ _›
      obtain ⟨p, hp_, rfl, rfl, rfl⟩ := hex)
    all_goals try simp only [Int.toNat_natCast] at *
    all_goals try (
      have hp2 := hN _ (mem_getD (d := (0 : Int)) (show p < order.length by omega)))
    all_goals try (
      generalize order.getD p 0 = z at *
      have hz := idx3 (a := z) (q := (q : Int)) (by omega) (by omega)
      obtain ⟨z1, z2⟩ := hz
      generalize (IntKind.i64.wrap (IntKind.i64.wrap (z.tmod ((q : Int) + 1) + q) + 1)).tmod ((q : Int) + 1) = y at *)
    all_goals try (
      have he := hD _ (mem_getD (d := (⟨0, [], []⟩ : Delta)) (show y.toNat < ds.length by omega))
      obtain ⟨e1, e2⟩ := he
      generalize (ds.getD y.toNat ⟨0, [], []⟩).add = add2 at *
      generalize (ds.getD y.toNat ⟨0, [], []⟩).off = off2 at *)
    all_goals try (
      have hz := idx_okI (a := z) (n := (m : Int) + 1) (by omega) (by omega)
      obtain ⟨z3, z4⟩ := hz
      generalize (IntKind.i64.wrap (z.tmod ((m : Int) + 1) + ((m : Int) + 1))).tmod ((m : Int) + 1) = x at *
      have w3 : IntKind.i64.wrap (1 + x) = 1 + x := wrap64 (by omega) (by omega)
      have w4 : IntKind.i64.wrap ((m : Int) + 1 + 2) = m + 3 := by rw [wrap64 (by omega) (by omega)]; omega
      simp only [w3, w4] at *)
    all_goals try (
      have hc := apply_old (act := false) (v := (m : Int) + 1) (L := nextI L add off) (to := 1 + x) (add := add2) (off := off2) (by omega)
      obtain ⟨c1, c2, c3⟩ := hc
      have hf := apply_far (act := false) (v := (m : Int) + 1) (L := nextI L add off) (to := (m : Int) + 3) (add := add2) (off := off2) (by omega)
      obtain ⟨f1, f2, f3⟩ := hf
      simp only [c1, c2, c3, f1, f2, f3] at *)
    all_goals try (refine Vc.mk ?_; first | omega | (refine ⟨?_, ?_⟩ <;> omega))
    all_goals try (exact Res.mk trivial)
    all_goals try (exfalso; first | contradiction | (simp only [ne_eq, not_true_eq_false] at *; done) | (simp_all; done))
    · exact ⟨⟨0, 0, [], by omega, by omega, by simp, rfl, rfl, rfl, rfl, rfl, rfl⟩⟩
    · have hn := apply_no (act := false) (v := (m : Int)) (L := L) (to := m + 1) (add := add) (off := off) ‹_›
      rw [hn.1, hn.2]
      exact ⟨⟨q + 1, m, L, by omega, by omega, hL, by omega, rfl, rfl, rfl, rfl, rfl⟩, by omega⟩
    · exact ⟨⟨0, by omega, rfl, rfl, rfl⟩⟩
    · exact ⟨⟨p + 1, by omega, by rw [wrap64] <;> omega, rfl, rfl⟩, by rw [wrap64] <;> omega⟩
    · exact ⟨⟨q + 1, m + 1, _, by omega, by omega, a2, by omega, by omega, by omega, rfl, by omega, rfl⟩, by omega⟩
    · exact ⟨⟨q + 1, m + 1, _, by omega, by omega, a2, by omega, by omega, by omega, rfl, by omega, rfl⟩, by omega⟩
  · exact h.fail.elim

end Go.Proofs.Ythbmllekbbfobaa.Sx
