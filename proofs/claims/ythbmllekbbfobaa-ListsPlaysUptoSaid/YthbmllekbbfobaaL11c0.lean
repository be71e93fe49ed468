import Derived.Test.YthbmllekbbfobaaProg
import Derived.Test.YthbmllekbbfobaaSxU
import Derived.IntWalk
import Derived.Test.YthbmllekbbfobaaL11r
/-! lists, For -/
namespace Go.Proofs.Ythbmllekbbfobaa.Sx
open Go
set_option linter.unusedVariables false
set_option linter.unusedSimpArgs false
set_option maxRecDepth 100000

def T_slices_stableCmpFunc_api_Item : TT := [(3, ⟨.int .i64, 1, 8, [.int .i64 0], some .int⟩),
  (4, ⟨.bool, 1, 1, [.bool false], some .bool⟩),
  (22, ⟨.slice 52, 1, 24, [.slice none 0 0], none⟩),
  (52, ⟨.strct [(0, 3), (1, 3), (2, 3), (3, 3), (4, 3)], 5, 40, [.int .i64 0, .int .i64 0, .int .i64 0, .int .i64 0, .int .i64 0], some .item⟩),
  (170, ⟨.other, 1, 8, [.nilFunc], none⟩)]
theorem tOk_slices_stableCmpFunc_api_Item : TOk Try.prog T_slices_stableCmpFunc_api_Item := tOk_of (by kernel_rfl)
def sp_slices_stableCmpFunc_api_Item : Spec := fun args hp => match args, hp with
  | [.slF 0, .val (.int .i64 n), .fn (.func 92) [] []], [(0, .row true .item data)] => .vc (n = data.length ∧ data.length ≤ 64) (.tup []) [(0, some (.row true .item (stS Item.number data)))]
  | _, _ => .fail "slices_stableCmpFunc_api_Item"
abbrev k_slices_stableCmpFunc_api_Item : List (Option RK) := [some .item, none, none]
def a_slices_stableCmpFunc_api_Item : List SV → List (Nat × VB) → Anns := fun args hp => match args, hp with
  | [.slF 0, .val (.int .i64 n), .fn (.func 92) [] []], [(0, .row true .item data)] => [(2, fun S => .inv [pOf (S.get 0)] [] [] fun ids vs rs => { cars := [.i 7 .i64, .i 8 .i64, .row (atN ids 0) true .item], inv := fun ((a, b, xs, _) : Int × Int × List Item × Unit) => ISa data a b xs, mu := fun ((a, b, xs, _) : Int × Int × List Item × Unit) => 84 - b.toNat }),
    (7, fun S => .inv [pOf (S.get 0)] [] [] fun ids vs rs => { cars := [.i 6 .i64, .row (atN ids 0) true .item], inv := fun ((q, xs, _) : Int × List Item × Unit) => ISb data q xs, mu := fun ((q, xs, _) : Int × List Item × Unit) => 128 - q.toNat }),
    (9, fun S => .inv [pOf (S.get 0)] [S.get 6] [] fun ids vs rs => { cars := [.i 7 .i64, .i 8 .i64, .row (atN ids 0) true .item], inv := fun ((a, b, xs, _) : Int × Int × List Item × Unit) => ISc data ((iA vs 0)).toNat a b xs, mu := fun ((a, b, xs, _) : Int × Int × List Item × Unit) => 1000 - b.toNat })]
  | _, _ => []
set_option maxHeartbeats 20000000 in
theorem ok_slices_stableCmpFunc_api_Item : GOk Try.prog 132 (lift k_slices_stableCmpFunc_api_Item sp_slices_stableCmpFunc_api_Item) := by
  refine pf_ok (T := T_slices_stableCmpFunc_api_Item) (Γ := (151, lift k_slices_insertionSortCmpFunc_api_Item sp_slices_insertionSortCmpFunc_api_Item) :: (152, lift k_slices_symMergeCmpFunc_api_Item (sp_slices_symMergeCmpFunc_api_Item 64)) :: []) tOk_slices_stableCmpFunc_api_Item (gOks_cons ok_slices_insertionSortCmpFunc_api_Item (gOks_cons (ok_slices_symMergeCmpFunc_api_Item 64) (gOks_nil _))) mixed Try.func132 (c := body Try.f132) (by kernel_rfl) (by kernel_rfl) k_slices_stableCmpFunc_api_Item sp_slices_stableCmpFunc_api_Item (by kernel_rfl) (by kernel_rfl) a_slices_stableCmpFunc_api_Item ?_
  intro args hp s u hfit h
  unfold sp_slices_stableCmpFunc_api_Item at h
  split at h
  · rename_i n data
    obtain ⟨hvc, rfl, rfl⟩ := h.vc
    clear h hfit
    change List Item at data
    conv => whnf
    repeat' (first
      | (refine And.intro ?_ ?_ <;> try conv => whnf)
      | (intro hh; first | (cases hh; done) | conv => whnf))
    all_goals try first | rfl | kernel_rfl
    all_goals try simp only [decide_eq_true_eq, decide_eq_false_iff_not] at *
    all_goals try simp only [Key_eta, Share_eta, Journey_eta, Batch_eta, FieldT_eta, OpB_eta, Product_eta, Item_eta, Delta_eta, Elem_eta, Rule_eta, Do10_eta, Ask_eta, Key_beq, Share_beq, Journey_beq, FieldT_beq, Product_beq, Item_beq, Do10_beq, Ask_beq, toNat0, toNat1, toNat2, toNat3, toNat4, toNat5, toNat6, toNat7, toNat8, toNat9, toNat10, toNat11, toNat12, toNat13, toNat14, toNat15, toNat16, toNat17, toNat18, toNat19, iA, iOf, atS, rwA, castK, zK, true_and, and_true, decide_eq_true_eq, decide_eq_false_iff_not, beq_iff_eq, bne_iff_ne, beq_eq_false_iff_ne, bne_eq_false_iff_eq, Bool.not_eq_true', Bool.not_eq_false', Bool.not_eq_true, Bool.not_eq_false, Nat.succ_eq_add_one, Int.not_lt, Int.not_le, gt_iff_lt, ge_iff_le, show bytesS T_slices_stableCmpFunc_api_Item 22 = 40 from rfl] at *
    all_goals obtain ⟨rfl, hL⟩ := hvc
    all_goals try (
      have z := ‹ISa _ _ _ _›
      obtain ⟨c0, rfl, rfl, hc0, rfl⟩ := z
      have hcl := chS_length (bs := 20) c0 data)
    all_goals try (
      have z := ‹ISb _ _ _›
      obtain ⟨q, rfl, q1, q2, rfl⟩ := z
      have hql := chS_length (bs := q) 64 data)
    all_goals try simp only [Int.toNat_natCast] at *
    all_goals try (
      have z := ‹ISc _ _ _ _ _›
      obtain ⟨c, rfl, rfl, hc, rfl⟩ := z
      have hml := mxS_length (bs := q) (F := 64) c data
      have hw1 : IntKind.i64.wrap ((((q + q) * c : Nat) : Int) + q) = (((q + q) * c + q : Nat) : Int) := by rw [wrap64 (by omega) (by omega)]; omega
      try simp only [hw1, Int.toNat_natCast] at *)
    all_goals try simp only [Int.toNat_natCast] at *
    · exact ⟨⟨0, rfl, rfl, by omega, rfl⟩⟩
    · refine Vc.mk ?_; omega
    · rw [wrap64 (by omega) (by omega)]
      refine ⟨⟨c0 + 1, by omega, by omega, by omega, st_block (by omega)⟩, by omega⟩
    · refine Vc.mk ?_; omega
    · exact ⟨⟨20, rfl, by omega, by omega, st_last (by omega) (by omega) hL⟩⟩
    · rw [wrap64 (by omega) (by omega)]
      exact ⟨⟨0, by simp, by simp; omega, by simp, rfl⟩⟩
    · obtain ⟨s1, s2, s3⟩ := st_merge (bs := q) (c := c) (b := (q + q) * c + (q + q)) q1 hL (by omega) (by omega)
      exact Vc.mk ⟨by omega, by omega, s2, s3⟩
    · obtain ⟨s1, s2, s3⟩ := st_merge (bs := q) (c := c) (b := (q + q) * c + (q + q)) q1 hL (by omega) (by omega)
      rw [wrap64 (n := 2 * (q : Int)) (by omega) (by omega), wrap64 (by omega) (by omega)]
      have e := Nat.mul_succ (q + q) c
      exact ⟨⟨c + 1, by rw [e], by rw [e]; omega, by rw [e]; omega, s1⟩, by omega⟩
    · obtain ⟨s1, s2, s3⟩ := st_merge (bs := q) (c := c) (b := data.length) q1 hL (by omega) (by omega)
      exact Vc.mk ⟨by omega, by omega, s2, s3⟩
    · obtain ⟨s1, s2, s3⟩ := st_merge (bs := q) (c := c) (b := data.length) q1 hL (by omega) (by omega)
      have e := Nat.mul_succ (q + q) c
      rw [wrap64 (n := (q : Int) * 2) (by omega) (by omega), s1, st_round q1 hL (by rw [e]; omega)]
      exact ⟨⟨q + q, by omega, by omega, by omega, rfl⟩, by omega⟩
    · have e := Nat.mul_succ (q + q) c
      rw [wrap64 (n := (q : Int) * 2) (by omega) (by omega), ← mx_same (by omega) c data (by omega), st_round q1 hL (by rw [e]; omega)]
      exact ⟨⟨q + q, by omega, by omega, by omega, rfl⟩, by omega⟩
    · rw [chS_all (by omega) (by omega)]
      exact Res.mk rfl
  · exact h.fail.elim

def T_slices_SortStableFunc_api_Item_api_Item : TT := [(3, ⟨.int .i64, 1, 8, [.int .i64 0], some .int⟩),
  (22, ⟨.slice 52, 1, 24, [.slice none 0 0], none⟩),
  (52, ⟨.strct [(0, 3), (1, 3), (2, 3), (3, 3), (4, 3)], 5, 40, [.int .i64 0, .int .i64 0, .int .i64 0, .int .i64 0, .int .i64 0], some .item⟩),
  (170, ⟨.other, 1, 8, [.nilFunc], none⟩)]
theorem tOk_slices_SortStableFunc_api_Item_api_Item : TOk Try.prog T_slices_SortStableFunc_api_Item_api_Item := tOk_of (by kernel_rfl)
def sp_slices_SortStableFunc_api_Item_api_Item : Spec := fun args hp => match args, hp with
  | [.slF 0, .fn (.func 92) [] []], [(0, .row true .item data)] => .vc (data.length ≤ 64) (.tup []) [(0, some (.row true .item (stS Item.number data)))]
  | _, _ => .fail "slices_SortStableFunc_api_Item_api_Item"
abbrev k_slices_SortStableFunc_api_Item_api_Item : List (Option RK) := [some .item, none]
def a_slices_SortStableFunc_api_Item_api_Item : List SV → List (Nat × VB) → Anns := fun _ _ => []
set_option maxHeartbeats 20000000 in
theorem ok_slices_SortStableFunc_api_Item_api_Item : GOk Try.prog 91 (lift k_slices_SortStableFunc_api_Item_api_Item sp_slices_SortStableFunc_api_Item_api_Item) := by
  refine pf_ok (T := T_slices_SortStableFunc_api_Item_api_Item) (Γ := (132, lift k_slices_stableCmpFunc_api_Item sp_slices_stableCmpFunc_api_Item) :: []) tOk_slices_SortStableFunc_api_Item_api_Item (gOks_cons ok_slices_stableCmpFunc_api_Item (gOks_nil _)) mixed Try.func91 (c := body Try.f91) (by kernel_rfl) (by kernel_rfl) k_slices_SortStableFunc_api_Item_api_Item sp_slices_SortStableFunc_api_Item_api_Item (by kernel_rfl) (by kernel_rfl) a_slices_SortStableFunc_api_Item_api_Item ?_
  intro args hp s u hfit h
  unfold sp_slices_SortStableFunc_api_Item_api_Item at h
  split at h
  · rename_i data
    obtain ⟨hvc, rfl, rfl⟩ := h.vc
    clear h hfit
    change List Item at data
    conv => whnf
    repeat' (first
      | (refine And.intro ?_ ?_ <;> try conv => whnf)
      | (intro hh; first | (cases hh; done) | conv => whnf))
    all_goals try first | rfl | kernel_rfl
    all_goals try simp only [decide_eq_true_eq, decide_eq_false_iff_not] at *
    all_goals try simp only [Key_eta, Share_eta, Journey_eta, Batch_eta, FieldT_eta, OpB_eta, Product_eta, Item_eta, Delta_eta, Elem_eta, Rule_eta, Do10_eta, Ask_eta, Key_beq, Share_beq, Journey_beq, FieldT_beq, Product_beq, Item_beq, Do10_beq, Ask_beq, toNat0, toNat1, toNat2, toNat3, toNat4, toNat5, toNat6, toNat7, toNat8, toNat9, toNat10, toNat11, toNat12, toNat13, toNat14, toNat15, toNat16, toNat17, toNat18, toNat19, iA, iOf, atS, rwA, castK, zK, true_and, and_true, decide_eq_true_eq, decide_eq_false_iff_not, beq_iff_eq, bne_iff_ne, beq_eq_false_iff_ne, bne_eq_false_iff_eq, Bool.not_eq_true', Bool.not_eq_false', Bool.not_eq_true, Bool.not_eq_false, Nat.succ_eq_add_one, Int.not_lt, Int.not_le, gt_iff_lt, ge_iff_le, show bytesS T_slices_SortStableFunc_api_Item_api_Item 22 = 40 from rfl] at *
    all_goals first | exact Vc.mk ⟨rfl, hvc⟩ | exact Vc.mk hvc | exact Res.mk trivial | exact Res.mk rfl
  · exact h.fail.elim

end Go.Proofs.Ythbmllekbbfobaa.Sx
