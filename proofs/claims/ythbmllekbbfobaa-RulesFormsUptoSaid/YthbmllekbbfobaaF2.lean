import Derived.Test.YthbmllekbbfobaaProg
import Derived.Test.YthbmllekbbfobaaSxU
import Derived.IntWalk
import Derived.Test.YthbmllekbbfobaaF2r
/-! fare -/
namespace Go.Proofs.Ythbmllekbbfobaa.Sx
open Go
set_option linter.unusedVariables false
set_option linter.unusedSimpArgs false
set_option maxRecDepth 100000

def T_fare_in : TT := [(3, ⟨.int .i64, 1, 8, [.int .i64 0], some .int⟩),
  (4, ⟨.bool, 1, 1, [.bool false], some .bool⟩),
  (41, ⟨.slice 3, 1, 24, [.slice none 0 0], none⟩)]
theorem tOk_fare_in : TOk Try.prog T_fare_in := tOk_of (by kernel_rfl)
def sp_fare_in : Spec := fun args hp => match args, hp with
  | [.val (.int .i64 lo), .val (.int .i64 hi), .slF 0], [(0, .row o_ns .int ns)] => .vc (ns.length ≤ 1099511627776) (bv (inR lo hi ns)) []
  | _, _ => .fail "fare_in"
abbrev k_fare_in : List (Option RK) := [none, none, some .int]
def a_fare_in : List SV → List (Nat × VB) → Anns := fun args hp => match args, hp with
  | [.val (.int .i64 lo), .val (.int .i64 hi), .slF 0], [(0, .row o_ns .int ns)] => [(2, fun S => .inv [] [] [] fun ids vs rs => { cars := [.i 11 .i64], inv := fun ((i, _) : Int × Unit) => IIn lo hi ns i, mu := fun ((i, _) : Int × Unit) => ns.length - i.toNat })]
  | _, _ => []
set_option maxHeartbeats 20000000 in
theorem ok_fare_in : GOk Try.prog 138 (lift k_fare_in sp_fare_in) := by
  refine pf_ok (T := T_fare_in) (Γ := []) tOk_fare_in (gOks_nil _) mixed Try.func138 (c := body Try.f138) (by kernel_rfl) (by kernel_rfl) k_fare_in sp_fare_in (by kernel_rfl) (by kernel_rfl) a_fare_in ?_
  intro args hp s u hfit h
  unfold sp_fare_in at h
  split at h
  · rename_i lo hi o_ns ns
    obtain ⟨hvc, rfl, rfl⟩ := h.vc
    clear h hfit
    change List Int at ns
    conv => whnf
    repeat' (first
      | (refine And.intro ?_ ?_ <;> try conv => whnf)
      | (intro hh; first | (cases hh; done) | conv => whnf))
    all_goals try first | rfl | kernel_rfl
    all_goals try simp only [decide_eq_true_eq, decide_eq_false_iff_not] at *
    all_goals try simp only [Key_eta, Share_eta, Journey_eta, Batch_eta, FieldT_eta, OpB_eta, Product_eta, Item_eta, Delta_eta, Elem_eta, Rule_eta, Do10_eta, Ask_eta, Key_beq, Share_beq, Journey_beq, FieldT_beq, Product_beq, Item_beq, Do10_beq, Ask_beq, toNat0, toNat1, toNat2, toNat3, toNat4, toNat5, toNat6, toNat7, toNat8, toNat9, toNat10, toNat11, toNat12, toNat13, toNat14, toNat15, toNat16, toNat17, toNat18, toNat19, iA, iOf, atS, rwA, castK, zK, true_and, and_true, decide_eq_true_eq, decide_eq_false_iff_not, beq_iff_eq, bne_iff_ne, beq_eq_false_iff_ne, bne_eq_false_iff_eq, Bool.not_eq_true', Bool.not_eq_false', Bool.not_eq_true, Bool.not_eq_false, Nat.succ_eq_add_one, Int.not_lt, Int.not_le, gt_iff_lt, ge_iff_le, show bytesS T_fare_in 41 = 8 from rfl] at *
    all_goals try (
      obtain ⟨j, hj, rfl, hr⟩ := ‹IIn _ _ _ _›
      (try simp only [Int.toNat_natCast] at *))
    all_goals try (refine Vc.mk ?_; omega)
    · exact ⟨⟨0, Nat.zero_le _, rfl, by simp [inR]⟩⟩
    · exact Res.mk (not_inR (j := j) (by omega) (by omega)).symm
    · exact Res.mk (not_inR (j := j) (by omega) (by omega)).symm
    · have hlt : j < ns.length := by omega
      refine ⟨⟨j + 1, by omega, by rw [wrap64] <;> omega, ?_⟩, by rw [wrap64] <;> omega⟩
      rw [take_succ hlt, inR_snoc, hr]
      simp only [Bool.true_and, Bool.and_eq_true, decide_eq_true_eq]
      omega
    · obtain rfl : j = ns.length := by omega
      rw [List.take_length] at hr
      exact Res.mk hr.symm
  · exact h.fail.elim

def T_fare_Good : TT := [(3, ⟨.int .i64, 1, 8, [.int .i64 0], some .int⟩),
  (4, ⟨.bool, 1, 1, [.bool false], some .bool⟩),
  (41, ⟨.slice 3, 1, 24, [.slice none 0 0], none⟩),
  (56, ⟨.int .i64, 1, 8, [.int .i64 0], some .int⟩),
  (90, ⟨.strct [(0, 3), (1, 3), (2, 3), (3, 3), (4, 3), (5, 56), (6, 3), (7, 3), (8, 3), (9, 3)], 10, 80, [.int .i64 0, .int .i64 0, .int .i64 0, .int .i64 0, .int .i64 0, .int .i64 0, .int .i64 0, .int .i64 0, .int .i64 0, .int .i64 0], some .journey⟩),
  (104, ⟨.slice 90, 1, 24, [.slice none 0 0], none⟩)]
theorem tOk_fare_Good : TOk Try.prog T_fare_Good := tOk_of (by kernel_rfl)
def sp_fare_Good : Spec := fun args hp => match args, hp with
  | [.slF 0], [(0, .row o_js .journey js)] => .vc (js.length ≤ 1099511627776) (bv (good js)) []
  | _, _ => .fail "fare_Good"
abbrev k_fare_Good : List (Option RK) := [some .journey]
def a_fare_Good : List SV → List (Nat × VB) → Anns := fun args hp => match args, hp with
  | [.slF 0], [(0, .row o_js .journey js)] => [(2, fun S => .inv [] [] [] fun ids vs rs => { cars := [.i 7 .i64], inv := fun ((i, _) : Int × Unit) => IGood js i, mu := fun ((i, _) : Int × Unit) => js.length - i.toNat })]
  | _, _ => []
set_option maxHeartbeats 20000000 in
theorem ok_fare_Good : GOk Try.prog 104 (lift k_fare_Good sp_fare_Good) := by
  refine pf_ok (T := T_fare_Good) (Γ := (138, lift k_fare_in sp_fare_in) :: []) tOk_fare_Good (gOks_cons ok_fare_in (gOks_nil _)) mixed Try.func104 (c := body Try.f104) (by kernel_rfl) (by kernel_rfl) k_fare_Good sp_fare_Good (by kernel_rfl) (by kernel_rfl) a_fare_Good ?_
  intro args hp s u hfit h
  unfold sp_fare_Good at h
  split at h
  · rename_i o_js js
    obtain ⟨hvc, rfl, rfl⟩ := h.vc
    clear h hfit
    change List Journey at js
    conv => whnf
    repeat' (first
      | (refine And.intro ?_ ?_ <;> try conv => whnf)
      | (intro hh; first | (cases hh; done) | conv => whnf))
    all_goals try first | rfl | kernel_rfl
    all_goals try simp only [decide_eq_true_eq, decide_eq_false_iff_not] at *
    all_goals try simp only [Key_eta, Share_eta, Journey_eta, Batch_eta, FieldT_eta, OpB_eta, Product_eta, Item_eta, Delta_eta, Elem_eta, Rule_eta, Do10_eta, Ask_eta, Key_beq, Share_beq, Journey_beq, FieldT_beq, Product_beq, Item_beq, Do10_beq, Ask_beq, toNat0, toNat1, toNat2, toNat3, toNat4, toNat5, toNat6, toNat7, toNat8, toNat9, toNat10, toNat11, toNat12, toNat13, toNat14, toNat15, toNat16, toNat17, toNat18, toNat19, iA, iOf, atS, rwA, castK, zK, true_and, and_true, decide_eq_true_eq, decide_eq_false_iff_not, beq_iff_eq, bne_iff_ne, beq_eq_false_iff_ne, bne_eq_false_iff_eq, Bool.not_eq_true', Bool.not_eq_false', Bool.not_eq_true, Bool.not_eq_false, Nat.succ_eq_add_one, Int.not_lt, Int.not_le, gt_iff_lt, ge_iff_le, show bytesS T_fare_Good 41 = 8 from rfl, show bytesS T_fare_Good 104 = 80 from rfl] at *
    all_goals try (
      obtain ⟨j, hj, rfl, hr⟩ := ‹IGood _ _›
      (try simp only [Int.toNat_natCast] at *))
    all_goals try (refine Vc.mk ?_; (try simp only [List.length_cons, List.length_nil]); omega)
    · exact ⟨⟨0, Nat.zero_le _, rfl, by simp [good]⟩⟩
    iterate 7 (
      refine Res.mk (not_good (j := j) (by omega) ?_).symm
      unfold goodJ
      simp only [*, Bool.false_and, Bool.and_false])
    · have hlt : j < js.length := by omega
      refine ⟨⟨j + 1, by omega, by rw [wrap64] <;> omega, ?_⟩, by rw [wrap64] <;> omega⟩
      rw [take_getD (d := (⟨0, 0, 0, 0, 0, 0, 0, 0, 0, 0⟩ : Journey)) hlt, good_snoc, hr]
      unfold goodJ
      simp only [*, Bool.and_self]
    · obtain rfl : j = js.length := by omega
      rw [List.take_length] at hr
      exact Res.mk hr.symm
  · exact h.fail.elim

def T_money_Sum : TT := [(3, ⟨.int .i64, 1, 8, [.int .i64 0], some .int⟩),
  (4, ⟨.bool, 1, 1, [.bool false], some .bool⟩),
  (27, ⟨.int .i64, 1, 8, [.int .i64 0], some .int⟩),
  (41, ⟨.slice 3, 1, 24, [.slice none 0 0], none⟩)]
theorem tOk_money_Sum : TOk Try.prog T_money_Sum := tOk_of (by kernel_rfl)
def sp_money_Sum : Spec := fun args hp => match args, hp with
  | [.slF 0], [(0, .row o_ns .int ns)] => .vc (ns.length ≤ 1099511627776 ∧ ∀ n ∈ ns, -9223372036854775808 ≤ n ∧ n ≤ 9223372036854775807) (.tup [iv (sumV ns), iv (sumE ns)]) []
  | _, _ => .fail "money_Sum"
abbrev k_money_Sum : List (Option RK) := [some .int]
def a_money_Sum : List SV → List (Nat × VB) → Anns := fun args hp => match args, hp with
  | [.slF 0], [(0, .row o_ns .int ns)] => [(3, fun S => .inv [] [] [] fun ids vs rs => { cars := [.i 10 .i64, .i 4 .i64], inv := fun ((i, s, _) : Int × Int × Unit) => ISum ns i s, mu := fun ((i, s, _) : Int × Int × Unit) => ns.length - i.toNat })]
  | _, _ => []
set_option maxHeartbeats 20000000 in
theorem ok_money_Sum : GOk Try.prog 140 (lift k_money_Sum sp_money_Sum) := by
  refine pf_ok (T := T_money_Sum) (Γ := []) tOk_money_Sum (gOks_nil _) mixed Try.func140 (c := body Try.f140) (by kernel_rfl) (by kernel_rfl) k_money_Sum sp_money_Sum (by kernel_rfl) (by kernel_rfl) a_money_Sum ?_
  intro args hp s u hfit h
  unfold sp_money_Sum at h
  split at h
  · rename_i o_ns ns
    obtain ⟨hvc, rfl, rfl⟩ := h.vc
    clear h hfit
    change List Int at ns
    conv => whnf
    repeat' (first
      | (refine And.intro ?_ ?_ <;> try conv => whnf)
      | (intro hh; first | (cases hh; done) | conv => whnf))
    all_goals try first | rfl | kernel_rfl
    all_goals try simp only [decide_eq_true_eq, decide_eq_false_iff_not] at *
    all_goals try simp only [Key_eta, Share_eta, Journey_eta, Batch_eta, FieldT_eta, OpB_eta, Product_eta, Item_eta, Delta_eta, Elem_eta, Rule_eta, Do10_eta, Ask_eta, Key_beq, Share_beq, Journey_beq, FieldT_beq, Product_beq, Item_beq, Do10_beq, Ask_beq, toNat0, toNat1, toNat2, toNat3, toNat4, toNat5, toNat6, toNat7, toNat8, toNat9, toNat10, toNat11, toNat12, toNat13, toNat14, toNat15, toNat16, toNat17, toNat18, toNat19, iA, iOf, atS, rwA, castK, zK, true_and, and_true, decide_eq_true_eq, decide_eq_false_iff_not, beq_iff_eq, bne_iff_ne, beq_eq_false_iff_ne, bne_eq_false_iff_eq, Bool.not_eq_true', Bool.not_eq_false', Bool.not_eq_true, Bool.not_eq_false, Nat.succ_eq_add_one, Int.not_lt, Int.not_le, gt_iff_lt, ge_iff_le, show bytesS T_money_Sum 41 = 8 from rfl] at *
    all_goals obtain ⟨hL, hR⟩ := hvc
    all_goals try (refine Vc.mk ?_; obtain ⟨j, hj, rfl, _⟩ := ‹ISum _ _ _›; omega)
    · exact ⟨⟨0, Nat.zero_le _, rfl, rfl, by decide, by decide⟩⟩
    iterate 7 (
      rcases isum_more ‹ISum _ _ _› hL hR ‹_› with ⟨h1, h2⟩ | ⟨h1, h2, h3⟩
      · first
        | exact Res.mk (by simp only [sumE, sumV, h1]; exact ⟨rfl, rfl⟩)
        | (exfalso; omega)
      · first
        | exact ⟨h2, h3⟩
        | (exfalso; omega))
    · obtain ⟨j, hj, rfl, hs, _⟩ := ‹ISum _ _ _›
      obtain rfl : j = ns.length := by omega
      rw [List.drop_length] at hs
      simp only [sumGo] at hs
      exact Res.mk (by simp [sumE, sumV, ← hs])
  · exact h.fail.elim

end Go.Proofs.Ythbmllekbbfobaa.Sx
