import Derived.Test.YthbmllekbbfobaaProg
import Derived.Test.YthbmllekbbfobaaSxU
import Derived.IntWalk
import Derived.Test.YthbmllekbbfobaaL8r
/-! lists, laws -/
namespace Go.Proofs.Ythbmllekbbfobaa.Sx
open Go
set_option linter.unusedVariables false
set_option linter.unusedSimpArgs false
set_option maxRecDepth 100000

def T_fareboxref12_SameV : TT := [(3, ⟨.int .i64, 1, 8, [.int .i64 0], some .int⟩),
  (4, ⟨.bool, 1, 1, [.bool false], some .bool⟩),
  (22, ⟨.slice 52, 1, 24, [.slice none 0 0], none⟩),
  (52, ⟨.strct [(0, 3), (1, 3), (2, 3), (3, 3), (4, 3)], 5, 40, [.int .i64 0, .int .i64 0, .int .i64 0, .int .i64 0, .int .i64 0], some .item⟩)]
theorem tOk_fareboxref12_SameV : TOk Try.prog T_fareboxref12_SameV := tOk_of (by kernel_rfl)
def sp_fareboxref12_SameV : Spec := fun args hp => match args, hp with
  | [.slF 0, .slF 1], [(0, .row o_a .item a), (1, .row o_b .item b)] => .vc (a.length ≤ 1099511627776 ∧ b.length ≤ 1099511627776) (bv (decide (a = b))) []
  | [.slF 0, .slP 1 b_i b_n], [(0, .row o_a .item a), (1, .row o_b .item b)] => .vc (a.length ≤ 1099511627776 ∧ ((b.drop b_i).take b_n).length ≤ 1099511627776) (bv (decide (a = ((b.drop b_i).take b_n)))) []
  | _, _ => .fail "fareboxref12_SameV"
abbrev k_fareboxref12_SameV : List (Option RK) := [some .item, some .item]
def a_fareboxref12_SameV : List SV → List (Nat × VB) → Anns := fun args hp => match args, hp with
  | [.slF 0, .slF 1], [(0, .row o_a .item a), (1, .row o_b .item b)] => [(4, fun S => .inv [] [] [] fun ids vs rs => { cars := [.i 5 .i64], inv := fun ((i, _) : Int × Unit) => ISameI a b i, mu := fun ((i, _) : Int × Unit) => a.length - i.toNat })]
  | [.slF 0, .slP 1 b_i b_n], [(0, .row o_a .item a), (1, .row o_b .item b)] => [(4, fun S => .inv [] [] [] fun ids vs rs => { cars := [.i 5 .i64], inv := fun ((i, _) : Int × Unit) => ISameI a ((b.drop b_i).take b_n) i, mu := fun ((i, _) : Int × Unit) => a.length - i.toNat })]
  | _, _ => []
set_option maxHeartbeats 20000000 in
theorem ok_fareboxref12_SameV : GOk Try.prog 19 (lift k_fareboxref12_SameV sp_fareboxref12_SameV) := by
  refine pf_ok (T := T_fareboxref12_SameV) (Γ := []) tOk_fareboxref12_SameV (gOks_nil _) mixed Try.func19 (c := body Try.f19) (by kernel_rfl) (by kernel_rfl) k_fareboxref12_SameV sp_fareboxref12_SameV (by kernel_rfl) (by kernel_rfl) a_fareboxref12_SameV ?_
  intro args hp s u hfit h
  unfold sp_fareboxref12_SameV at h
  split at h
  · rename_i o_a a o_b b
    obtain ⟨hvc, rfl, rfl⟩ := h.vc
    clear h hfit
    change List Item at a
    change List Item at b
    conv => whnf
    repeat' (first
      | (refine And.intro ?_ ?_ <;> try conv => whnf)
      | (intro hh; first | (cases hh; done) | conv => whnf))
    all_goals try first | rfl | kernel_rfl
    all_goals try simp only [decide_eq_true_eq, decide_eq_false_iff_not] at *
    all_goals try simp only [Key_eta, Share_eta, Journey_eta, Batch_eta, FieldT_eta, OpB_eta, Product_eta, Item_eta, Delta_eta, Elem_eta, Rule_eta, Do10_eta, Ask_eta, Key_beq, Share_beq, Journey_beq, FieldT_beq, Product_beq, Item_beq, Do10_beq, Ask_beq, toNat0, toNat1, toNat2, toNat3, toNat4, toNat5, toNat6, toNat7, toNat8, toNat9, toNat10, toNat11, toNat12, toNat13, toNat14, toNat15, toNat16, toNat17, toNat18, toNat19, iA, iOf, atS, rwA, castK, zK, true_and, and_true, decide_eq_true_eq, decide_eq_false_iff_not, beq_iff_eq, bne_iff_ne, beq_eq_false_iff_ne, bne_eq_false_iff_eq, Bool.not_eq_true', Bool.not_eq_false', Bool.not_eq_true, Bool.not_eq_false, Nat.succ_eq_add_one, Int.not_lt, Int.not_le, gt_iff_lt, ge_iff_le, show bytesS T_fareboxref12_SameV 22 = 40 from rfl] at *
    all_goals obtain ⟨hL, hL'⟩ := hvc
    all_goals try (
      obtain ⟨j, hj, rfl, hs⟩ := ‹ISameI _ _ _›
      (try simp only [Int.toNat_natCast] at *))
    all_goals try (refine Vc.mk ?_; omega)
    · exact Res.mk (by rw [eq_comm, decide_eq_false_iff_not]; intro h; subst h; exact absurd rfl ‹_›)
    · exact ⟨⟨0, Nat.zero_le _, rfl, rfl⟩⟩
    · refine Res.mk ?_
      rw [eq_comm, decide_eq_false_iff_not]
      intro h
      subst h
      exact absurd rfl ‹_›
    · have hlt : j < a.length := by omega
      refine ⟨⟨j + 1, by omega, by rw [wrap64] <;> omega, ?_⟩, by rw [wrap64] <;> omega⟩
      rw [take_getD (d := (⟨0, 0, 0, 0, 0⟩ : Item)) hlt, take_getD (d := (⟨0, 0, 0, 0, 0⟩ : Item)) (show j < b.length by omega), hs]
      congr 2
      (try assumption)
    · refine Res.mk ?_
      rw [eq_comm, decide_eq_true_eq]
      rw [List.take_of_length_le (by omega), List.take_of_length_le (by omega)] at hs
      exact hs
  · rename_i b_i b_n o_a a o_b b
    obtain ⟨hvc, rfl, rfl⟩ := h.vc
    clear h
    change List Item at a
    change List Item at b
    conv => whnf
    repeat' (first
      | (refine And.intro ?_ ?_ <;> try conv => whnf)
      | (intro hh; first | (cases hh; done) | conv => whnf))
    all_goals try first | rfl | kernel_rfl
    all_goals try simp only [decide_eq_true_eq, decide_eq_false_iff_not] at *
    all_goals try simp only [Key_eta, Share_eta, Journey_eta, Batch_eta, FieldT_eta, OpB_eta, Product_eta, Item_eta, Delta_eta, Elem_eta, Rule_eta, Do10_eta, Ask_eta, Key_beq, Share_beq, Journey_beq, FieldT_beq, Product_beq, Item_beq, Do10_beq, Ask_beq, toNat0, toNat1, toNat2, toNat3, toNat4, toNat5, toNat6, toNat7, toNat8, toNat9, toNat10, toNat11, toNat12, toNat13, toNat14, toNat15, toNat16, toNat17, toNat18, toNat19, iA, iOf, atS, rwA, castK, zK, true_and, and_true, decide_eq_true_eq, decide_eq_false_iff_not, beq_iff_eq, bne_iff_ne, beq_eq_false_iff_ne, bne_eq_false_iff_eq, Bool.not_eq_true', Bool.not_eq_false', Bool.not_eq_true, Bool.not_eq_false, Nat.succ_eq_add_one, Int.not_lt, Int.not_le, gt_iff_lt, ge_iff_le, show bytesS T_fareboxref12_SameV 22 = 40 from rfl] at *
    all_goals (
      have hf : b_n = 0 ∨ b_i + b_n ≤ b.length := hfit.2.1
      have hfn : ((b.drop b_i).take b_n).length = b_n := by
        rw [List.length_take, List.length_drop]
        omega
      have hge : ∀ i, i < b_n → ((b.drop b_i).take b_n).getD i ⟨0, 0, 0, 0, 0⟩ = b.getD (b_i + i) ⟨0, 0, 0, 0, 0⟩ := fun i hi => getD_td hi)
    all_goals obtain ⟨hL, hL'⟩ := hvc
    all_goals generalize hbb : ((b.drop b_i).take b_n) = bb at *
    all_goals subst hfn
    all_goals try (
      have hex := ‹ISameI _ _ _›
      obtain ⟨j, hj, rfl, hs⟩ := hex
      (try simp only [Int.toNat_natCast] at *))
    all_goals try (
      have hjb : j < bb.length := by omega
      have he := hge j hjb
      have hz : ((b_i : Int) + (j : Int)).toNat = b_i + j := by omega
      simp only [hz, ← he] at *)
    all_goals try (refine Vc.mk ?_; omega)
    · exact Res.mk (by rw [eq_comm, decide_eq_false_iff_not]; intro h; subst h; exact absurd rfl ‹_›)
    · exact ⟨⟨0, Nat.zero_le _, rfl, rfl⟩⟩
    · refine Res.mk ?_
      rw [eq_comm, decide_eq_false_iff_not]
      intro h
      subst h
      exact absurd rfl ‹_›
    · have hlt : j < a.length := by omega
      refine ⟨⟨j + 1, by omega, by rw [wrap64] <;> omega, ?_⟩, by rw [wrap64] <;> omega⟩
      rw [take_getD (d := (⟨0, 0, 0, 0, 0⟩ : Item)) hlt, take_getD (d := (⟨0, 0, 0, 0, 0⟩ : Item)) (show j < bb.length by omega), hs]
      congr 2
      (try assumption)
    · refine Res.mk ?_
      rw [eq_comm, decide_eq_true_eq]
      rw [List.take_of_length_le (by omega), List.take_of_length_le (by omega)] at hs
      exact hs
  · exact h.fail.elim

def T_fareboxlaw12_copied : TT := [(3, ⟨.int .i64, 1, 8, [.int .i64 0], some .int⟩),
  (22, ⟨.slice 52, 1, 24, [.slice none 0 0], none⟩),
  (24, ⟨.strct [(0, 3), (1, 22), (2, 22)], 3, 56, [.int .i64 0, .slice none 0 0, .slice none 0 0], some .delta⟩),
  (52, ⟨.strct [(0, 3), (1, 3), (2, 3), (3, 3), (4, 3)], 5, 40, [.int .i64 0, .int .i64 0, .int .i64 0, .int .i64 0, .int .i64 0], some .item⟩)]
theorem tOk_fareboxlaw12_copied : TOk Try.prog T_fareboxlaw12_copied := tOk_of (by kernel_rfl)
def sp_fareboxlaw12_copied : Spec := fun args hp => match args, hp with
  | [.agg [.val (.int .i64 d_to), .slF 0, .slF 1]], [(0, .row o_d_add .item d_add), (1, .row o_d_off .item d_off)] => .vc ((⟨d_to, d_add, d_off⟩ : Delta).add.length ≤ 1048576 ∧ (⟨d_to, d_add, d_off⟩ : Delta).off.length ≤ 1048576) (.agg [iv (⟨d_to, d_add, d_off⟩ : Delta).to, .slF 2000, .slF 2001]) [(2000, some (.row true .item (⟨d_to, d_add, d_off⟩ : Delta).add)), (2001, some (.row true .item (⟨d_to, d_add, d_off⟩ : Delta).off))]
  | _, _ => .fail "fareboxlaw12_copied"
abbrev k_fareboxlaw12_copied : List (Option RK) := [none]
def a_fareboxlaw12_copied : List SV → List (Nat × VB) → Anns := fun _ _ => []
set_option maxHeartbeats 20000000 in
theorem ok_fareboxlaw12_copied : GOk Try.prog 16 (lift k_fareboxlaw12_copied sp_fareboxlaw12_copied) := by
  refine pf_ok (T := T_fareboxlaw12_copied) (Γ := []) tOk_fareboxlaw12_copied (gOks_nil _) mixed Try.func16 (c := body Try.f16) (by kernel_rfl) (by kernel_rfl) k_fareboxlaw12_copied sp_fareboxlaw12_copied (by kernel_rfl) (by kernel_rfl) a_fareboxlaw12_copied ?_
  intro args hp s u hfit h
  unfold sp_fareboxlaw12_copied at h
  split at h
  · rename_i d_to o_d_add d_add o_d_off d_off
    obtain ⟨hvc, rfl, rfl⟩ := h.vc
    clear h hfit
    conv => whnf
    repeat' (first
      | (refine And.intro ?_ ?_ <;> try conv => whnf)
      | (intro hh; first | (cases hh; done) | conv => whnf))
    all_goals try first | rfl | kernel_rfl
    all_goals try simp only [decide_eq_true_eq, decide_eq_false_iff_not] at *
    all_goals try simp only [Key_eta, Share_eta, Journey_eta, Batch_eta, FieldT_eta, OpB_eta, Product_eta, Item_eta, Delta_eta, Elem_eta, Rule_eta, Do10_eta, Ask_eta, Key_beq, Share_beq, Journey_beq, FieldT_beq, Product_beq, Item_beq, Do10_beq, Ask_beq, toNat0, toNat1, toNat2, toNat3, toNat4, toNat5, toNat6, toNat7, toNat8, toNat9, toNat10, toNat11, toNat12, toNat13, toNat14, toNat15, toNat16, toNat17, toNat18, toNat19, iA, iOf, atS, rwA, castK, zK, true_and, and_true, decide_eq_true_eq, decide_eq_false_iff_not, beq_iff_eq, bne_iff_ne, beq_eq_false_iff_ne, bne_eq_false_iff_eq, Bool.not_eq_true', Bool.not_eq_false', Bool.not_eq_true, Bool.not_eq_false, Nat.succ_eq_add_one, Int.not_lt, Int.not_le, gt_iff_lt, ge_iff_le, show bytesS T_fareboxlaw12_copied 22 = 40 from rfl] at *
    all_goals try (refine Vc.mk ?_; simp only [List.length_nil]; omega)
    all_goals exact Res.mk ⟨rfl, rfl⟩
  · exact h.fail.elim

def T_fareboxlaw12_awake : TT := [(3, ⟨.int .i64, 1, 8, [.int .i64 0], some .int⟩),
  (4, ⟨.bool, 1, 1, [.bool false], some .bool⟩),
  (5, ⟨.int .u8, 1, 1, [.int .u8 0], some .u8⟩),
  (22, ⟨.slice 52, 1, 24, [.slice none 0 0], none⟩),
  (24, ⟨.strct [(0, 3), (1, 22), (2, 22)], 3, 56, [.int .i64 0, .slice none 0 0, .slice none 0 0], some .delta⟩),
  (25, ⟨.slice 5, 1, 24, [.slice none 0 0], none⟩),
  (27, ⟨.int .i64, 1, 8, [.int .i64 0], some .int⟩),
  (42, ⟨.ptr, 1, 8, [.pointer none], none⟩),
  (44, ⟨.strct [(0, 3), (1, 22)], 2, 32, [.int .i64 0, .slice none 0 0], none⟩),
  (46, ⟨.strct [(0, 44)], 2, 32, [.int .i64 0, .slice none 0 0], none⟩),
  (52, ⟨.strct [(0, 3), (1, 3), (2, 3), (3, 3), (4, 3)], 5, 40, [.int .i64 0, .int .i64 0, .int .i64 0, .int .i64 0, .int .i64 0], some .item⟩)]
theorem tOk_fareboxlaw12_awake : TOk Try.prog T_fareboxlaw12_awake := tOk_of (by kernel_rfl)
def sp_fareboxlaw12_awake : Spec := fun args hp => match args, hp with
  | [], [] => .ok (bv true) []
  | _, _ => .fail "fareboxlaw12_awake"
abbrev k_fareboxlaw12_awake : List (Option RK) := []
def a_fareboxlaw12_awake : List SV → List (Nat × VB) → Anns := fun _ _ => []
set_option maxHeartbeats 20000000 in
theorem ok_fareboxlaw12_awake : GOk Try.prog 14 (lift k_fareboxlaw12_awake sp_fareboxlaw12_awake) := by
  refine pf_ok (T := T_fareboxlaw12_awake) (Γ := (15, lift k_lists_Put sp_lists_Put) :: (18, lift k_lists_Get sp_lists_Get) :: (22, lift k_lists_Hot_Apply sp_lists_Hot_Apply) :: (25, lift k_lists_Hot_Has sp_lists_Hot_Has) :: (21, lift k_lists_list_Version sp_lists_list_Version) :: []) tOk_fareboxlaw12_awake (gOks_cons ok_lists_Put (gOks_cons ok_lists_Get (gOks_cons ok_lists_Hot_Apply (gOks_cons ok_lists_Hot_Has (gOks_cons ok_lists_list_Version (gOks_nil _)))))) mixed Try.func14 (c := body Try.f14) (by kernel_rfl) (by kernel_rfl) k_fareboxlaw12_awake sp_fareboxlaw12_awake (by kernel_rfl) (by kernel_rfl) a_fareboxlaw12_awake ?_
  intro args hp s u hfit h
  unfold sp_fareboxlaw12_awake at h
  split at h
  · skip
    obtain ⟨rfl, rfl⟩ := h.ok
    clear h hfit
    conv => whnf
    repeat' (first
      | (refine And.intro ?_ ?_ <;> try conv => whnf)
      | (intro hh; first | (cases hh; done) | conv => whnf))
    all_goals try first | rfl | kernel_rfl
    all_goals try simp only [decide_eq_true_eq, decide_eq_false_iff_not] at *
    all_goals try simp only [Key_eta, Share_eta, Journey_eta, Batch_eta, FieldT_eta, OpB_eta, Product_eta, Item_eta, Delta_eta, Elem_eta, Rule_eta, Do10_eta, Ask_eta, Key_beq, Share_beq, Journey_beq, FieldT_beq, Product_beq, Item_beq, Do10_beq, Ask_beq, toNat0, toNat1, toNat2, toNat3, toNat4, toNat5, toNat6, toNat7, toNat8, toNat9, toNat10, toNat11, toNat12, toNat13, toNat14, toNat15, toNat16, toNat17, toNat18, toNat19, iA, iOf, atS, rwA, castK, zK, true_and, and_true, decide_eq_true_eq, decide_eq_false_iff_not, beq_iff_eq, bne_iff_ne, beq_eq_false_iff_ne, bne_eq_false_iff_eq, Bool.not_eq_true', Bool.not_eq_false', Bool.not_eq_true, Bool.not_eq_false, Nat.succ_eq_add_one, Int.not_lt, Int.not_le, gt_iff_lt, ge_iff_le, show bytesS T_fareboxlaw12_awake 22 = 40 from rfl, show bytesS T_fareboxlaw12_awake 25 = 1 from rfl] at *
    all_goals first
      | exact Vc.mk (by decide)
      | (refine Vc.mk ⟨?_, by decide⟩
         exact putD_isB _ _ _)
      | exact Res.mk (by decide)
  · exact h.fail.elim

end Go.Proofs.Ythbmllekbbfobaa.Sx
