import Derived.Test.YthbmllekbbfobaaProg
import Derived.Test.YthbmllekbbfobaaSxU
import Derived.IntWalk
import Derived.Test.YthbmllekbbfobaaL7r
/-! fareboxref12, Put and Get -/
namespace Go.Proofs.Ythbmllekbbfobaa.Sx
open Go
set_option linter.unusedVariables false
set_option linter.unusedSimpArgs false
set_option maxRecDepth 100000

def T_fareboxref12_four : TT := [(3, ⟨.int .i64, 1, 8, [.int .i64 0], some .int⟩),
  (5, ⟨.int .u8, 1, 1, [.int .u8 0], some .u8⟩),
  (25, ⟨.slice 5, 1, 24, [.slice none 0 0], none⟩)]
theorem tOk_fareboxref12_four : TOk Try.prog T_fareboxref12_four := tOk_of (by kernel_rfl)
def sp_fareboxref12_four : Spec := fun args hp => match args, hp with
  | [.val (.int .i64 n)], [] => .vc (0 ≤ n ∧ n < 4294967296) (.slF 2000) [(2000, some (.row true .u8 (be 4 n)))]
  | _, _ => .fail "fareboxref12_four"
abbrev k_fareboxref12_four : List (Option RK) := [none]
def a_fareboxref12_four : List SV → List (Nat × VB) → Anns := fun _ _ => []
set_option maxHeartbeats 20000000 in
theorem ok_fareboxref12_four : GOk Try.prog 63 (lift k_fareboxref12_four sp_fareboxref12_four) := by
  refine pf_ok (T := T_fareboxref12_four) (Γ := []) tOk_fareboxref12_four (gOks_nil _) mixed Try.func63 (c := body Try.f63) (by kernel_rfl) (by kernel_rfl) k_fareboxref12_four sp_fareboxref12_four (by kernel_rfl) (by kernel_rfl) a_fareboxref12_four ?_
  intro args hp s u hfit h
  unfold sp_fareboxref12_four at h
  split at h
  · rename_i n
    obtain ⟨hvc, rfl, rfl⟩ := h.vc
    clear h hfit
    conv => whnf
    repeat' (first
      | (refine And.intro ?_ ?_ <;> try conv => whnf)
      | (intro hh; first | (cases hh; done) | conv => whnf))
    all_goals try first | rfl | kernel_rfl
    all_goals try simp only [decide_eq_true_eq, decide_eq_false_iff_not] at *
    all_goals try simp only [Key_eta, Share_eta, Journey_eta, Batch_eta, FieldT_eta, OpB_eta, Product_eta, Item_eta, Delta_eta, Elem_eta, Rule_eta, Do10_eta, Ask_eta, Key_beq, Share_beq, Journey_beq, FieldT_beq, Product_beq, Item_beq, Do10_beq, Ask_beq, toNat0, toNat1, toNat2, toNat3, toNat4, toNat5, toNat6, toNat7, toNat8, toNat9, toNat10, toNat11, toNat12, toNat13, toNat14, toNat15, toNat16, toNat17, toNat18, toNat19, iA, iOf, atS, rwA, castK, zK, true_and, and_true, decide_eq_true_eq, decide_eq_false_iff_not, beq_iff_eq, bne_iff_ne, beq_eq_false_iff_ne, bne_eq_false_iff_eq, Bool.not_eq_true', Bool.not_eq_false', Bool.not_eq_true, Bool.not_eq_false, Nat.succ_eq_add_one, Int.not_lt, Int.not_le, gt_iff_lt, ge_iff_le, show bytesS T_fareboxref12_four 25 = 1 from rfl] at *
    all_goals obtain ⟨h0, h1⟩ := hvc
    all_goals try (refine Vc.mk ?_; decide)
    all_goals exact Res.mk (four_eq h0 h1)
  · exact h.fail.elim

def T_fareboxref12_Numbers : TT := [(3, ⟨.int .i64, 1, 8, [.int .i64 0], some .int⟩),
  (41, ⟨.slice 3, 1, 24, [.slice none 0 0], none⟩),
  (52, ⟨.strct [(0, 3), (1, 3), (2, 3), (3, 3), (4, 3)], 5, 40, [.int .i64 0, .int .i64 0, .int .i64 0, .int .i64 0, .int .i64 0], some .item⟩)]
theorem tOk_fareboxref12_Numbers : TOk Try.prog T_fareboxref12_Numbers := tOk_of (by kernel_rfl)
def sp_fareboxref12_Numbers : Spec := fun args hp => match args, hp with
  | [.agg x_cs], [] => (match decS .item x_cs with
    | some x => .ok (.slF 2000) [(2000, some (.row true .int (numsI x)))]
    | none => .fail "struct")
  | _, _ => .fail "fareboxref12_Numbers"
abbrev k_fareboxref12_Numbers : List (Option RK) := [none]
def a_fareboxref12_Numbers : List SV → List (Nat × VB) → Anns := fun _ _ => []
set_option maxHeartbeats 20000000 in
theorem ok_fareboxref12_Numbers : GOk Try.prog 64 (lift k_fareboxref12_Numbers sp_fareboxref12_Numbers) := by
  refine pf_ok (T := T_fareboxref12_Numbers) (Γ := []) tOk_fareboxref12_Numbers (gOks_nil _) mixed Try.func64 (c := body Try.f64) (by kernel_rfl) (by kernel_rfl) k_fareboxref12_Numbers sp_fareboxref12_Numbers (by kernel_rfl) (by kernel_rfl) a_fareboxref12_Numbers ?_
  intro args hp s u hfit h
  unfold sp_fareboxref12_Numbers at h
  split at h
  · rename_i x_cs
    split at h
    case h_2 => exact h.fail.elim
    rename_i x h_x
    obtain rfl := decS_ok (k := .item) rfl h_x
    clear h_x
    change Item at x
    obtain ⟨rfl, rfl⟩ := h.ok
    clear h hfit
    conv => whnf
    repeat' (first
      | (refine And.intro ?_ ?_ <;> try conv => whnf)
      | (intro hh; first | (cases hh; done) | conv => whnf))
    all_goals try first | rfl | kernel_rfl
    all_goals try simp only [decide_eq_true_eq, decide_eq_false_iff_not] at *
    all_goals try simp only [Key_eta, Share_eta, Journey_eta, Batch_eta, FieldT_eta, OpB_eta, Product_eta, Item_eta, Delta_eta, Elem_eta, Rule_eta, Do10_eta, Ask_eta, Key_beq, Share_beq, Journey_beq, FieldT_beq, Product_beq, Item_beq, Do10_beq, Ask_beq, toNat0, toNat1, toNat2, toNat3, toNat4, toNat5, toNat6, toNat7, toNat8, toNat9, toNat10, toNat11, toNat12, toNat13, toNat14, toNat15, toNat16, toNat17, toNat18, toNat19, iA, iOf, atS, rwA, castK, zK, true_and, and_true, decide_eq_true_eq, decide_eq_false_iff_not, beq_iff_eq, bne_iff_ne, beq_eq_false_iff_ne, bne_eq_false_iff_eq, Bool.not_eq_true', Bool.not_eq_false', Bool.not_eq_true, Bool.not_eq_false, Nat.succ_eq_add_one, Int.not_lt, Int.not_le, gt_iff_lt, ge_iff_le, show bytesS T_fareboxref12_Numbers 41 = 8 from rfl] at *
    all_goals exact Res.mk rfl
  · exact h.fail.elim

def T_fareboxref12_num : TT := [(3, ⟨.int .i64, 1, 8, [.int .i64 0], some .int⟩),
  (5, ⟨.int .u8, 1, 1, [.int .u8 0], some .u8⟩),
  (25, ⟨.slice 5, 1, 24, [.slice none 0 0], none⟩)]
theorem tOk_fareboxref12_num : TOk Try.prog T_fareboxref12_num := tOk_of (by kernel_rfl)
def sp_fareboxref12_num : Spec := fun args hp => match args, hp with
  | [.slP 0 b_i b_n], [(0, .row o_b .u8 b)] => .vc (isB ((b.drop b_i).take b_n) ∧ 4 ≤ ((b.drop b_i).take b_n).length) (iv (num (((b.drop b_i).take b_n).take 4))) []
  | [.slF 0], [(0, .row o_b .u8 b)] => .vc (isB b ∧ 4 ≤ b.length) (iv (num (b.take 4))) []
  | _, _ => .fail "fareboxref12_num"
abbrev k_fareboxref12_num : List (Option RK) := [some .u8]
def a_fareboxref12_num : List SV → List (Nat × VB) → Anns := fun _ _ => []
set_option maxHeartbeats 20000000 in
theorem ok_fareboxref12_num : GOk Try.prog 70 (lift k_fareboxref12_num sp_fareboxref12_num) := by
  refine pf_ok (T := T_fareboxref12_num) (Γ := []) tOk_fareboxref12_num (gOks_nil _) mixed Try.func70 (c := body Try.f70) (by kernel_rfl) (by kernel_rfl) k_fareboxref12_num sp_fareboxref12_num (by kernel_rfl) (by kernel_rfl) a_fareboxref12_num ?_
  intro args hp s u hfit h
  unfold sp_fareboxref12_num at h
  split at h
  · rename_i b_i b_n o_b b
    obtain ⟨hvc, rfl, rfl⟩ := h.vc
    clear h
    change List Int at b
    conv => whnf
    repeat' (first
      | (refine And.intro ?_ ?_ <;> try conv => whnf)
      | (intro hh; first | (cases hh; done) | conv => whnf))
    all_goals try first | rfl | kernel_rfl
    all_goals try simp only [decide_eq_true_eq, decide_eq_false_iff_not] at *
    all_goals try simp only [Key_eta, Share_eta, Journey_eta, Batch_eta, FieldT_eta, OpB_eta, Product_eta, Item_eta, Delta_eta, Elem_eta, Rule_eta, Do10_eta, Ask_eta, Key_beq, Share_beq, Journey_beq, FieldT_beq, Product_beq, Item_beq, Do10_beq, Ask_beq, toNat0, toNat1, toNat2, toNat3, toNat4, toNat5, toNat6, toNat7, toNat8, toNat9, toNat10, toNat11, toNat12, toNat13, toNat14, toNat15, toNat16, toNat17, toNat18, toNat19, iA, iOf, atS, rwA, castK, zK, true_and, and_true, decide_eq_true_eq, decide_eq_false_iff_not, beq_iff_eq, bne_iff_ne, beq_eq_false_iff_ne, bne_eq_false_iff_eq, Bool.not_eq_true', Bool.not_eq_false', Bool.not_eq_true, Bool.not_eq_false, Nat.succ_eq_add_one, Int.not_lt, Int.not_le, gt_iff_lt, ge_iff_le, show bytesS T_fareboxref12_num 25 = 1 from rfl] at *
    all_goals (
      have hf : b_n = 0 ∨ b_i + b_n ≤ b.length := hfit.1
      have hfn : ((b.drop b_i).take b_n).length = b_n := by
        rw [List.length_take, List.length_drop]
        omega
      have hge : ∀ i, i < b_n → ((b.drop b_i).take b_n).getD i 0 = b.getD (b_i + i) 0 := fun i hi => getD_take_drop hi)
    all_goals obtain ⟨hB, h4⟩ := hvc
    all_goals generalize hbb : ((b.drop b_i).take b_n) = bb at *
    all_goals subst hfn
    all_goals try (refine Vc.mk ?_; omega)
    · refine Res.mk ?_
      rw [num4 hB h4, show ((b_i : Int) + 0).toNat = b_i + 0 by omega, show ((b_i : Int) + 1).toNat = b_i + 1 by omega, show ((b_i : Int) + 2).toNat = b_i + 2 by omega, show ((b_i : Int) + 3).toNat = b_i + 3 by omega, ← hge 0 (by omega), ← hge 1 (by omega), ← hge 2 (by omega), ← hge 3 (by omega)]
      have h0 := hB.getD 0
      have h1 := hB.getD 1
      have h2 := hB.getD 2
      have h3 := hB.getD 3
      simp (disch := omega) only [wrap64]
  · rename_i o_b b
    obtain ⟨hvc, rfl, rfl⟩ := h.vc
    clear h hfit
    change List Int at b
    conv => whnf
    repeat' (first
      | (refine And.intro ?_ ?_ <;> try conv => whnf)
      | (intro hh; first | (cases hh; done) | conv => whnf))
    all_goals try first | rfl | kernel_rfl
    all_goals try simp only [decide_eq_true_eq, decide_eq_false_iff_not] at *
    all_goals try simp only [Key_eta, Share_eta, Journey_eta, Batch_eta, FieldT_eta, OpB_eta, Product_eta, Item_eta, Delta_eta, Elem_eta, Rule_eta, Do10_eta, Ask_eta, Key_beq, Share_beq, Journey_beq, FieldT_beq, Product_beq, Item_beq, Do10_beq, Ask_beq, toNat0, toNat1, toNat2, toNat3, toNat4, toNat5, toNat6, toNat7, toNat8, toNat9, toNat10, toNat11, toNat12, toNat13, toNat14, toNat15, toNat16, toNat17, toNat18, toNat19, iA, iOf, atS, rwA, castK, zK, true_and, and_true, decide_eq_true_eq, decide_eq_false_iff_not, beq_iff_eq, bne_iff_ne, beq_eq_false_iff_ne, bne_eq_false_iff_eq, Bool.not_eq_true', Bool.not_eq_false', Bool.not_eq_true, Bool.not_eq_false, Nat.succ_eq_add_one, Int.not_lt, Int.not_le, gt_iff_lt, ge_iff_le, show bytesS T_fareboxref12_num 25 = 1 from rfl] at *
    all_goals obtain ⟨hB, h4⟩ := hvc
    all_goals try (refine Vc.mk ?_; omega)
    · refine Res.mk ?_
      rw [num4 hB h4]
      have h0 := hB.getD 0
      have h1 := hB.getD 1
      have h2 := hB.getD 2
      have h3 := hB.getD 3
      simp (disch := omega) only [wrap64]
  · exact h.fail.elim

def T_fareboxref12_Put : TT := [(3, ⟨.int .i64, 1, 8, [.int .i64 0], some .int⟩),
  (4, ⟨.bool, 1, 1, [.bool false], some .bool⟩),
  (5, ⟨.int .u8, 1, 1, [.int .u8 0], some .u8⟩),
  (22, ⟨.slice 52, 1, 24, [.slice none 0 0], none⟩),
  (25, ⟨.slice 5, 1, 24, [.slice none 0 0], none⟩),
  (41, ⟨.slice 3, 1, 24, [.slice none 0 0], none⟩),
  (52, ⟨.strct [(0, 3), (1, 3), (2, 3), (3, 3), (4, 3)], 5, 40, [.int .i64 0, .int .i64 0, .int .i64 0, .int .i64 0, .int .i64 0], some .item⟩)]
theorem tOk_fareboxref12_Put : TOk Try.prog T_fareboxref12_Put := tOk_of (by kernel_rfl)
def sp_fareboxref12_Put : Spec := fun args hp => match args, hp with
  | [.val (.int .i64 to), .slF 0, .slF 1], [(0, .row o_add .item add), (1, .row o_off .item off)] => .vc (add.length ≤ 1048576 ∧ off.length ≤ 1048576) (.tup [.slF 2000, iv (putDE to add off)]) [(2000, some (.row true .u8 (putD to add off)))]
  | _, _ => .fail "fareboxref12_Put"
abbrev k_fareboxref12_Put : List (Option RK) := [none, some .item, some .item]
def a_fareboxref12_Put : List SV → List (Nat × VB) → Anns := fun args hp => match args, hp with
  | [.val (.int .i64 to), .slF 0, .slF 1], [(0, .row o_add .item add), (1, .row o_off .item off)] => [(6, fun S => .inv [] [] [] fun ids vs rs => { cars := [.i 9 .i64, .r 8 true .u8], inv := fun ((i, out, _) : Int × List Int × Unit) => IRP to add.length off.length (add ++ off) i out, mu := fun ((i, out, _) : Int × List Int × Unit) => add.length + off.length - i.toNat }),
    (14, fun S => .unroll 6)]
  | _, _ => []
set_option maxHeartbeats 20000000 in
theorem ok_fareboxref12_Put : GOk Try.prog 17 (lift k_fareboxref12_Put sp_fareboxref12_Put) := by
  refine pf_ok (T := T_fareboxref12_Put) (Γ := (63, lift k_fareboxref12_four sp_fareboxref12_four) :: (64, lift k_fareboxref12_Numbers sp_fareboxref12_Numbers) :: []) tOk_fareboxref12_Put (gOks_cons ok_fareboxref12_four (gOks_cons ok_fareboxref12_Numbers (gOks_nil _))) mixed Try.func17 (c := body Try.f17) (by kernel_rfl) (by kernel_rfl) k_fareboxref12_Put sp_fareboxref12_Put (by kernel_rfl) (by kernel_rfl) a_fareboxref12_Put ?_
  intro args hp s u hfit h
  unfold sp_fareboxref12_Put at h
  split at h
  · rename_i to o_add add o_off off
    obtain ⟨hvc, rfl, rfl⟩ := h.vc
    clear h hfit
    change List Item at add
    change List Item at off
    conv => whnf
    repeat' (first
      | (refine And.intro ?_ ?_ <;> try conv => whnf)
      | (intro hh; first | (cases hh; done) | conv => whnf))
    all_goals try first | rfl | kernel_rfl
    all_goals try simp only [decide_eq_true_eq, decide_eq_false_iff_not] at *
    all_goals try simp only [Key_eta, Share_eta, Journey_eta, Batch_eta, FieldT_eta, OpB_eta, Product_eta, Item_eta, Delta_eta, Elem_eta, Rule_eta, Do10_eta, Ask_eta, Key_beq, Share_beq, Journey_beq, FieldT_beq, Product_beq, Item_beq, Do10_beq, Ask_beq, toNat0, toNat1, toNat2, toNat3, toNat4, toNat5, toNat6, toNat7, toNat8, toNat9, toNat10, toNat11, toNat12, toNat13, toNat14, toNat15, toNat16, toNat17, toNat18, toNat19, iA, iOf, atS, rwA, castK, zK, true_and, and_true, decide_eq_true_eq, decide_eq_false_iff_not, beq_iff_eq, bne_iff_ne, beq_eq_false_iff_ne, bne_eq_false_iff_eq, Bool.not_eq_true', Bool.not_eq_false', Bool.not_eq_true, Bool.not_eq_false, Nat.succ_eq_add_one, Int.not_lt, Int.not_le, gt_iff_lt, ge_iff_le, show bytesS T_fareboxref12_Put 22 = 40 from rfl, show bytesS T_fareboxref12_Put 25 = 1 from rfl, show bytesS T_fareboxref12_Put 41 = 8 from rfl, w01, w11, w21, w31, w41, numsI_length, numsI_0, numsI_1, numsI_2, numsI_3, numsI_4, Int.toNat_natCast] at *
    all_goals obtain ⟨hA, hO⟩ := hvc
    all_goals try (
      have hw0 : IntKind.i64.wrap ((add.length : Int) + off.length) = add.length + off.length := wrap64 (by omega) (by omega)
      simp only [hw0] at *)
    all_goals try (
      have hex := ‹IRP _ _ _ _ _ _›
      obtain ⟨j, hj, rfl, rfl, hb⟩ := hex
      rw [List.length_append] at hj
      have hle := formIs_length ((add ++ off).take j)
      rw [List.length_take, List.length_append] at hle)
    all_goals try (
      have hje := getD_l (b := off) (d := (⟨0, 0, 0, 0, 0⟩ : Item)) (show j < add.length by omega)
      simp only [Int.toNat_natCast, hje] at *)
    all_goals try (
      have hge : add.length ≤ j := by omega
      have hw : (IntKind.i64.wrap ((j : Int) - add.length)).toNat = j - add.length := by rw [wrap64 (by omega) (by omega)]; omega
      have hw2 : IntKind.i64.wrap ((j : Int) - add.length) = j - add.length := by rw [wrap64 (by omega) (by omega)]
      have hje := getD_r (b := off) (d := (⟨0, 0, 0, 0, 0⟩ : Item)) hge
      simp only [Int.toNat_natCast, hw, hje] at *
      try simp only [hw2] at *)
    all_goals try (refine Vc.mk ?_; first | omega | decide | exact ⟨by assumption, by omega⟩ | (simp only [List.length_append, be_length, hle, List.length_cons, List.length_nil]; omega))
    all_goals try (
      have hlt : j < (add ++ off).length := by rw [List.length_append]; omega)
    all_goals try (
      have hbad : badI ((add ++ off).getD j ⟨0, 0, 0, 0, 0⟩) = true := badI_out (by omega)
      have h2 := putDE_bad (to := to) (by omega) (by omega) hlt hbad
      exact Res.mk (by simp [putD, h2]))
    · exact Res.mk (by have : putDE to add off = 2 := if_pos (.inl (by omega)); simp [putD, this])
    · exact Res.mk (by have : putDE to add off = 2 := if_pos (.inr (by omega)); simp [putD, this])
    · refine Vc.mk ?_
      simp only [be_length, List.length_cons, List.length_nil]
      omega
    · exact ⟨⟨0, Nat.zero_le _, rfl, by simp [formIs], rfl⟩⟩
    all_goals try (
      refine ⟨⟨j + 1, by omega, by rw [wrap64] <;> omega, ?_, ?_⟩, by rw [wrap64] <;> omega⟩
      · rw [take_getD (d := (⟨0, 0, 0, 0, 0⟩ : Item)) hlt, formIs_snoc, bytesI_eq]
        simp only [List.append_assoc]
      · rw [take_getD (d := (⟨0, 0, 0, 0, 0⟩ : Item)) hlt, any_snoc, hb, badI_iff.2 (by omega)]; rfl)
    all_goals (
      obtain rfl : j = add.length + off.length := by omega
      rw [← List.length_append, List.take_length] at hb
      try rw [← List.length_append, List.take_length])
    · have : putDE to add off = 11 := by unfold putDE; rw [if_neg (by omega), if_neg (by rw [hb]; simp), if_pos (.inl (by omega))]
      exact Res.mk (by simp [putD, this])
    · have : putDE to add off = 11 := by unfold putDE; rw [if_neg (by omega), if_neg (by rw [hb]; simp), if_pos (.inr (by omega))]
      exact Res.mk (by simp [putD, this])
    · have : putDE to add off = 0 := by unfold putDE; rw [if_neg (by omega), if_neg (by rw [hb]; simp), if_neg (by omega)]
      rw [head_be (by omega) (by omega)]
      exact Res.mk (by simp [putD, this])
  · exact h.fail.elim

def T_fareboxref12_Get : TT := [(3, ⟨.int .i64, 1, 8, [.int .i64 0], some .int⟩),
  (4, ⟨.bool, 1, 1, [.bool false], some .bool⟩),
  (5, ⟨.int .u8, 1, 1, [.int .u8 0], some .u8⟩),
  (22, ⟨.slice 52, 1, 24, [.slice none 0 0], none⟩),
  (25, ⟨.slice 5, 1, 24, [.slice none 0 0], none⟩),
  (36, ⟨.strct [(0, 3), (1, 22), (2, 22)], 3, 56, [.int .i64 0, .slice none 0 0, .slice none 0 0], none⟩),
  (52, ⟨.strct [(0, 3), (1, 3), (2, 3), (3, 3), (4, 3)], 5, 40, [.int .i64 0, .int .i64 0, .int .i64 0, .int .i64 0, .int .i64 0], some .item⟩),
  (144, ⟨.arr 5 3, 5, 40, [.int .i64 0, .int .i64 0, .int .i64 0, .int .i64 0, .int .i64 0], none⟩)]
theorem tOk_fareboxref12_Get : TOk Try.prog T_fareboxref12_Get := tOk_of (by kernel_rfl)
def sp_fareboxref12_Get : Spec := fun args hp => match args, hp with
  | [.slF 0], [(0, .row o_b .u8 b)] => .br (decide (getDE b = 0)) (.vc (isB b ∧ b.length ≤ 1048576) (.tup [.agg [iv ((headD b).getD 0 0), .slP 2000 0 ((headD b).getD 1 0).toNat, .slP 2000 ((headD b).getD 1 0).toNat ((headD b).getD 2 0).toNat], iv 0]) [(2000, some (.row true .item (itemsAt (cntD b) (b.drop 6))))]) (.vc (isB b ∧ b.length ≤ 1048576) (.tup [.agg [iv 0, .slF 2000, .slF 2001], iv (getDE b)]) [(2000, some (.row true .item [])), (2001, some (.row true .item []))])
  | _, _ => .fail "fareboxref12_Get"
abbrev k_fareboxref12_Get : List (Option RK) := [some .u8]
def a_fareboxref12_Get : List SV → List (Nat × VB) → Anns := fun args hp => match args, hp with
  | [.slF 0], [(0, .row o_b .u8 b)] => [(15, fun S => .inv [] [] [] fun ids vs rs => { cars := [.i 9 .i64, .r 8 true .item], inv := fun ((i, l, _) : Int × List Item × Unit) => IRG b (cntD b) i l, mu := fun ((i, l, _) : Int × List Item × Unit) => cntD b - i.toNat }),
    (20, fun S => .unroll 6)]
  | _, _ => []
set_option maxHeartbeats 20000000 in
theorem ok_fareboxref12_Get : GOk Try.prog 20 (lift k_fareboxref12_Get sp_fareboxref12_Get) := by
  refine pf_ok (T := T_fareboxref12_Get) (Γ := (70, lift k_fareboxref12_num sp_fareboxref12_num) :: []) tOk_fareboxref12_Get (gOks_cons ok_fareboxref12_num (gOks_nil _)) mixed Try.func20 (c := body Try.f20) (by kernel_rfl) (by kernel_rfl) k_fareboxref12_Get sp_fareboxref12_Get (by kernel_rfl) (by kernel_rfl) a_fareboxref12_Get ?_
  intro args hp s u hfit h
  unfold sp_fareboxref12_Get at h
  split at h
  · rename_i o_b b
    rcases h.br with ⟨hbr, h⟩ | ⟨hbr, h⟩
    · obtain ⟨hvc, rfl, rfl⟩ := h.vc
      clear h hfit
      change List Int at b
      conv => whnf
      repeat' (first
        | (refine And.intro ?_ ?_ <;> try conv => whnf)
        | (intro hh; first | (cases hh; done) | conv => whnf))
      all_goals try first | rfl | kernel_rfl
      all_goals try simp only [decide_eq_true_eq, decide_eq_false_iff_not] at *
      all_goals try simp only [Key_eta, Share_eta, Journey_eta, Batch_eta, FieldT_eta, OpB_eta, Product_eta, Item_eta, Delta_eta, Elem_eta, Rule_eta, Do10_eta, Ask_eta, Key_beq, Share_beq, Journey_beq, FieldT_beq, Product_beq, Item_beq, Do10_beq, Ask_beq, toNat0, toNat1, toNat2, toNat3, toNat4, toNat5, toNat6, toNat7, toNat8, toNat9, toNat10, toNat11, toNat12, toNat13, toNat14, toNat15, toNat16, toNat17, toNat18, toNat19, iA, iOf, atS, rwA, castK, zK, true_and, and_true, decide_eq_true_eq, decide_eq_false_iff_not, beq_iff_eq, bne_iff_ne, beq_eq_false_iff_ne, bne_eq_false_iff_eq, Bool.not_eq_true', Bool.not_eq_false', Bool.not_eq_true, Bool.not_eq_false, Nat.succ_eq_add_one, Int.not_lt, Int.not_le, gt_iff_lt, ge_iff_le, show bytesS T_fareboxref12_Get 22 = 40 from rfl, show bytesS T_fareboxref12_Get 25 = 1 from rfl, w01, w11, w21, w31, w41, m40, m41, m42, m43, m44, List.set_cons_zero, List.set_cons_succ, List.getD_cons_zero, List.getD_cons_succ] at *
      all_goals try (refine Vc.mk ?_; first | decide | (simp only [List.length_set, List.length_cons, List.length_nil]; decide))
      all_goals obtain ⟨hB, hL⟩ := hvc
      all_goals rcases Nat.lt_or_ge b.length 6 with h6 | h6
      all_goals try (have h6' : b.length < 6 := h6; exfalso; omega)
      all_goals try (have h6' : (b.length : Int) < 6 := ‹_›; exfalso; omega)
      all_goals try (
        have hr := head_rng hB h6
        have hc := cnt_ok hB h6
        have hd := heads h6
        obtain ⟨r0, r1, r2, r3⟩ := hr
        obtain ⟨c1, c2, c3⟩ := hc
        obtain ⟨d0, d1, d2⟩ := hd
        have q1 : IntKind.i64.wrap ((headD b).getD 1 0) = (headD b).getD 1 0 := wrap64 (by omega) (by omega)
        have q2 : IntKind.i64.wrap ((headD b).getD 2 0) = (headD b).getD 2 0 := wrap64 (by omega) (by omega)
        have c4 : IntKind.i64.wrap (20 * (cntD b : Int)) = 20 * cntD b := wrap64 (by omega) (by omega)
        have c5 : IntKind.i64.wrap (6 + 20 * (cntD b : Int)) = 6 + 20 * cntD b := wrap64 (by omega) (by omega)
        simp only [d0, d1, d2, q1, q2, c1, c4, c5] at *)
      all_goals try (
        have hex := ‹IRG _ _ _ _›
        obtain ⟨j, hj, rfl, rfl, hb⟩ := hex
        have g1 : IntKind.i64.wrap (20 * (j : Int)) = 20 * j := wrap64 (by omega) (by omega)
        have g2 : IntKind.i64.wrap (6 + 20 * (j : Int)) = 6 + 20 * j := wrap64 (by omega) (by omega)
        have g3 : IntKind.i64.wrap (26 + 20 * (j : Int)) = 26 + 20 * j := wrap64 (by omega) (by omega)
        have g4 : (6 + 20 * (j : Int)).toNat = 6 + 20 * j := by omega
        have g5 : (26 + 20 * (j : Int)).toNat = 26 + 20 * j := by omega
        simp only [g1, g2, g3, g4, g5] at *)
      all_goals try (
        have hlt : j < cntD b := by omega
        have s0 := take4 (b := b) (p := 26 + 20 * j) (n := 6 + 20 * j) (k := 0) (m := 20) (j := 6 + 20 * j) (by omega) (by omega) (by omega)
        have s1 := take4 (b := b) (p := 26 + 20 * j) (n := 6 + 20 * j) (k := 4) (m := 16) (j := 10 + 20 * j) (by omega) (by omega) (by omega)
        have s2 := take4 (b := b) (p := 26 + 20 * j) (n := 6 + 20 * j) (k := 8) (m := 12) (j := 14 + 20 * j) (by omega) (by omega) (by omega)
        have s3 := take4 (b := b) (p := 26 + 20 * j) (n := 6 + 20 * j) (k := 12) (m := 8) (j := 18 + 20 * j) (by omega) (by omega) (by omega)
        have s4 := take4 (b := b) (p := 26 + 20 * j) (n := 6 + 20 * j) (k := 16) (m := 4) (j := 22 + 20 * j) (by omega) (by omega) (by omega)
        simp only [toNat0, toNat4, toNat8, toNat12, toNat16, s0, s1, s2, s3, s4] at *)
      all_goals try (refine Vc.mk ?_; first | (refine ⟨(hB.drop _).take _, ?_⟩; rw [List.length_take, List.length_drop]; omega) | exact ⟨hB, by omega⟩ | decide | (simp only [List.length_cons, List.length_nil]; omega) | omega | (rw [itemsAt_length]; omega) | (simp only [itemsAt_length, List.length_cons, List.length_nil]; omega))
      all_goals try (
        have hE : getDE b = 10 := if_pos h6)
      all_goals try (
        have hd : (headD b).getD 0 0 < 1 ∨ 2147483648 ≤ (headD b).getD 0 0 ∨ 64 < (headD b).getD 1 0 ∨ 64 < (headD b).getD 2 0 := by omega
        have hE := getDE_head h6 hd)
      all_goals try (first | (rw [hE] at hbr; exact absurd hbr (by decide)) | exact Res.mk hE.symm | exact absurd hE hbr)
      all_goals try (
        have hE := getDE_short h6 ‹_› ‹_› ‹_› ‹_› ‹_›)
      all_goals try (
        have hE := getDE_long h6 ‹_› ‹_› ‹_› ‹_› ‹_›)
      all_goals try (
        have hbig := badI_big (x := itemAt ((b.drop 6).drop (20 * j))) (by rw [itemAt_eq]; first | exact .inl ‹_› | exact .inr (.inl ‹_›) | exact .inr (.inr (.inl ‹_›)) | exact .inr (.inr (.inr (.inl ‹_›))) | exact .inr (.inr (.inr (.inr ‹_›))))
        have hE := getDE_at h6 (by omega) (by omega) ‹_› ‹_› (by omega) hlt hbig)
      all_goals try (first | (rw [hE] at hbr; exact absurd hbr (by decide)) | exact Res.mk hE.symm | exact absurd hE hbr)
      all_goals try (exact ⟨⟨0, Nat.zero_le _, rfl, rfl, rfl⟩⟩)
      all_goals try (
        refine ⟨⟨j + 1, hlt, by rw [wrap64] <;> omega, ?_, ?_⟩, by rw [wrap64] <;> omega⟩
        · rw [itemsAt_snoc, itemAt_eq]
        · rw [itemsAt_snoc, any_snoc, hb, badI_ok hB ‹_› ‹_› ‹_› ‹_› ‹_›]; rfl)
      all_goals try (
        have he : j = cntD b := by omega
        subst he
        have hE := getDE_fine h6 ‹_› ‹_› ‹_› ‹_› (by omega) hb)
      all_goals try (first | (rw [hE] at hbr; exact absurd hbr (by decide)) | exact Res.mk hE.symm | exact absurd hE hbr)
      all_goals (
        refine Res.mk ?_
        simp only [itemsAt_length, true_and, and_true]
        omega)
    · obtain ⟨hvc, rfl, rfl⟩ := h.vc
      clear h hfit
      change List Int at b
      conv => whnf
      repeat' (first
        | (refine And.intro ?_ ?_ <;> try conv => whnf)
        | (intro hh; first | (cases hh; done) | conv => whnf))
      all_goals try first | rfl | kernel_rfl
      all_goals try simp only [decide_eq_true_eq, decide_eq_false_iff_not] at *
      all_goals try simp only [Key_eta, Share_eta, Journey_eta, Batch_eta, FieldT_eta, OpB_eta, Product_eta, Item_eta, Delta_eta, Elem_eta, Rule_eta, Do10_eta, Ask_eta, Key_beq, Share_beq, Journey_beq, FieldT_beq, Product_beq, Item_beq, Do10_beq, Ask_beq, toNat0, toNat1, toNat2, toNat3, toNat4, toNat5, toNat6, toNat7, toNat8, toNat9, toNat10, toNat11, toNat12, toNat13, toNat14, toNat15, toNat16, toNat17, toNat18, toNat19, iA, iOf, atS, rwA, castK, zK, true_and, and_true, decide_eq_true_eq, decide_eq_false_iff_not, beq_iff_eq, bne_iff_ne, beq_eq_false_iff_ne, bne_eq_false_iff_eq, Bool.not_eq_true', Bool.not_eq_false', Bool.not_eq_true, Bool.not_eq_false, Nat.succ_eq_add_one, Int.not_lt, Int.not_le, gt_iff_lt, ge_iff_le, show bytesS T_fareboxref12_Get 22 = 40 from rfl, show bytesS T_fareboxref12_Get 25 = 1 from rfl, w01, w11, w21, w31, w41, m40, m41, m42, m43, m44, List.set_cons_zero, List.set_cons_succ, List.getD_cons_zero, List.getD_cons_succ] at *
      all_goals try (refine Vc.mk ?_; first | decide | (simp only [List.length_set, List.length_cons, List.length_nil]; decide))
      all_goals obtain ⟨hB, hL⟩ := hvc
      all_goals rcases Nat.lt_or_ge b.length 6 with h6 | h6
      all_goals try (have h6' : b.length < 6 := h6; exfalso; omega)
      all_goals try (have h6' : (b.length : Int) < 6 := ‹_›; exfalso; omega)
      all_goals try (
        have hr := head_rng hB h6
        have hc := cnt_ok hB h6
        have hd := heads h6
        obtain ⟨r0, r1, r2, r3⟩ := hr
        obtain ⟨c1, c2, c3⟩ := hc
        obtain ⟨d0, d1, d2⟩ := hd
        have q1 : IntKind.i64.wrap ((headD b).getD 1 0) = (headD b).getD 1 0 := wrap64 (by omega) (by omega)
        have q2 : IntKind.i64.wrap ((headD b).getD 2 0) = (headD b).getD 2 0 := wrap64 (by omega) (by omega)
        have c4 : IntKind.i64.wrap (20 * (cntD b : Int)) = 20 * cntD b := wrap64 (by omega) (by omega)
        have c5 : IntKind.i64.wrap (6 + 20 * (cntD b : Int)) = 6 + 20 * cntD b := wrap64 (by omega) (by omega)
        simp only [d0, d1, d2, q1, q2, c1, c4, c5] at *)
      all_goals try (
        have hex := ‹IRG _ _ _ _›
        obtain ⟨j, hj, rfl, rfl, hb⟩ := hex
        have g1 : IntKind.i64.wrap (20 * (j : Int)) = 20 * j := wrap64 (by omega) (by omega)
        have g2 : IntKind.i64.wrap (6 + 20 * (j : Int)) = 6 + 20 * j := wrap64 (by omega) (by omega)
        have g3 : IntKind.i64.wrap (26 + 20 * (j : Int)) = 26 + 20 * j := wrap64 (by omega) (by omega)
        have g4 : (6 + 20 * (j : Int)).toNat = 6 + 20 * j := by omega
        have g5 : (26 + 20 * (j : Int)).toNat = 26 + 20 * j := by omega
        simp only [g1, g2, g3, g4, g5] at *)
      all_goals try (
        have hlt : j < cntD b := by omega
        have s0 := take4 (b := b) (p := 26 + 20 * j) (n := 6 + 20 * j) (k := 0) (m := 20) (j := 6 + 20 * j) (by omega) (by omega) (by omega)
        have s1 := take4 (b := b) (p := 26 + 20 * j) (n := 6 + 20 * j) (k := 4) (m := 16) (j := 10 + 20 * j) (by omega) (by omega) (by omega)
        have s2 := take4 (b := b) (p := 26 + 20 * j) (n := 6 + 20 * j) (k := 8) (m := 12) (j := 14 + 20 * j) (by omega) (by omega) (by omega)
        have s3 := take4 (b := b) (p := 26 + 20 * j) (n := 6 + 20 * j) (k := 12) (m := 8) (j := 18 + 20 * j) (by omega) (by omega) (by omega)
        have s4 := take4 (b := b) (p := 26 + 20 * j) (n := 6 + 20 * j) (k := 16) (m := 4) (j := 22 + 20 * j) (by omega) (by omega) (by omega)
        simp only [toNat0, toNat4, toNat8, toNat12, toNat16, s0, s1, s2, s3, s4] at *)
      all_goals try (refine Vc.mk ?_; first | (refine ⟨(hB.drop _).take _, ?_⟩; rw [List.length_take, List.length_drop]; omega) | exact ⟨hB, by omega⟩ | decide | (simp only [List.length_cons, List.length_nil]; omega) | omega | (rw [itemsAt_length]; omega) | (simp only [itemsAt_length, List.length_cons, List.length_nil]; omega))
      all_goals try (
        have hE : getDE b = 10 := if_pos h6)
      all_goals try (
        have hd : (headD b).getD 0 0 < 1 ∨ 2147483648 ≤ (headD b).getD 0 0 ∨ 64 < (headD b).getD 1 0 ∨ 64 < (headD b).getD 2 0 := by omega
        have hE := getDE_head h6 hd)
      all_goals try (first | (rw [hE] at hbr; exact absurd hbr (by decide)) | exact Res.mk hE.symm | exact absurd hE hbr)
      all_goals try (
        have hE := getDE_short h6 ‹_› ‹_› ‹_› ‹_› ‹_›)
      all_goals try (
        have hE := getDE_long h6 ‹_› ‹_› ‹_› ‹_› ‹_›)
      all_goals try (
        have hbig := badI_big (x := itemAt ((b.drop 6).drop (20 * j))) (by rw [itemAt_eq]; first | exact .inl ‹_› | exact .inr (.inl ‹_›) | exact .inr (.inr (.inl ‹_›)) | exact .inr (.inr (.inr (.inl ‹_›))) | exact .inr (.inr (.inr (.inr ‹_›))))
        have hE := getDE_at h6 (by omega) (by omega) ‹_› ‹_› (by omega) hlt hbig)
      all_goals try (first | (rw [hE] at hbr; exact absurd hbr (by decide)) | exact Res.mk hE.symm | exact absurd hE hbr)
      all_goals try (exact ⟨⟨0, Nat.zero_le _, rfl, rfl, rfl⟩⟩)
      all_goals try (
        refine ⟨⟨j + 1, hlt, by rw [wrap64] <;> omega, ?_, ?_⟩, by rw [wrap64] <;> omega⟩
        · rw [itemsAt_snoc, itemAt_eq]
        · rw [itemsAt_snoc, any_snoc, hb, badI_ok hB ‹_› ‹_› ‹_› ‹_› ‹_›]; rfl)
      all_goals try (
        have he : j = cntD b := by omega
        subst he
        have hE := getDE_fine h6 ‹_› ‹_› ‹_› ‹_› (by omega) hb)
      all_goals try (first | (rw [hE] at hbr; exact absurd hbr (by decide)) | exact Res.mk hE.symm | exact absurd hE hbr)
      all_goals (
        refine Res.mk ?_
        simp only [itemsAt_length, true_and, and_true]
        omega)
  · exact h.fail.elim

end Go.Proofs.Ythbmllekbbfobaa.Sx
