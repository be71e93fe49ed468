import Derived.Test.YtncdakkigkmfjaaProg
import Derived.Test.YtncdakkigkmfjaaSxU
import Derived.IntWalk
import Derived.Test.YtncdakkigkmfjaaF2s2
/-! fare -/
namespace Go.Proofs.Ytncdakkigkmfjaa.Sx
open Go
set_option linter.unusedVariables false
set_option linter.unusedSimpArgs false
set_option maxRecDepth 100000

def T_money_Sum : TT := [(3, ⟨.int .i64, 1, 8, [.int .i64 0], some .int⟩),
  (4, ⟨.bool, 1, 1, [.bool false], some .bool⟩),
  (24, ⟨.slice 3, 1, 24, [.slice none 0 0], none⟩),
  (27, ⟨.int .i64, 1, 8, [.int .i64 0], none⟩)]
theorem tOk_money_Sum : TOk Try.prog T_money_Sum := tOk_of (by kernel_rfl)
def sp_money_Sum : Spec := fun args hp => match args, hp with
  | [.slF 0], [(0, .row o_ns .int ns)] => .vc (ns.length ≤ 1099511627776 ∧ ∀ n ∈ ns, -9223372036854775808 ≤ n ∧ n ≤ 9223372036854775807) (.tup [iv (sumV ns), iv (sumE ns)]) []
  | _, _ => .fail "money_Sum"
abbrev k_money_Sum : List (Option RK) := [some .int]
def a_money_Sum : List SV → List (Nat × VB) → Anns := fun args hp => match args, hp with
  | [.slF 0], [(0, .row o_ns .int ns)] => [(3, fun S => .inv [] [] fun ids vs => { cars := [.i 10 .i64, .i 4 .i64], inv := fun ((i, s, _) : Int × Int × Unit) => ISum ns i s, mu := fun ((i, s, _) : Int × Int × Unit) => ns.length - i.toNat })]
  | _, _ => []
set_option maxHeartbeats 20000000 in
theorem ok_money_Sum : GOk Try.prog 81 (lift k_money_Sum sp_money_Sum) := by
  refine pf_ok (T := T_money_Sum) (Γ := []) tOk_money_Sum (gOks_nil _) mixed Try.func81 (c := body Try.f81) (by kernel_rfl) (by kernel_rfl) k_money_Sum sp_money_Sum (by kernel_rfl) (by kernel_rfl) a_money_Sum ?_
  intro args hp s u hfit h
  unfold sp_money_Sum at h
  split at h
  · rename_i o_ns ns
    obtain ⟨hvc, rfl, rfl⟩ := h.vc
    clear h hfit
    change List Int at ns
    conv => whnf
    repeat' (first
      | (refine And.intro ?_ ?_ <;> try conv => whnf)
      | (intro hh; first | (cases hh; done) | conv => whnf))
    all_goals try first | rfl | kernel_rfl
    all_goals try simp only [decide_eq_true_eq, decide_eq_false_iff_not] at *
    all_goals try simp only [Key_eta, Share_eta, Journey_eta, Batch_eta, FieldT_eta, OpB_eta, Product_eta, Key_beq, Share_beq, Journey_beq, FieldT_beq, Product_beq, toNat0, toNat1, toNat2, toNat3, toNat4, toNat5, toNat6, toNat7, toNat8, toNat9, toNat10, toNat11, toNat12, toNat13, toNat14, toNat15, toNat16, toNat17, toNat18, toNat19, iA, iOf, atS, zK, true_and, and_true, decide_eq_true_eq, decide_eq_false_iff_not, beq_iff_eq, bne_iff_ne, beq_eq_false_iff_ne, bne_eq_false_iff_eq, Bool.not_eq_true', Bool.not_eq_false', Bool.not_eq_true, Bool.not_eq_false, Nat.succ_eq_add_one, Int.not_lt, Int.not_le, gt_iff_lt, ge_iff_le, show bytesS T_money_Sum 24 = 8 from rfl] at *
    all_goals obtain ⟨hL, hR⟩ := hvc
    all_goals try (refine Vc.mk ?_; obtain ⟨j, hj, rfl, _⟩ := ‹ISum _ _ _›; omega)
    · exact ⟨⟨0, Nat.zero_le _, rfl, rfl, by decide, by decide⟩⟩
    iterate 7 (
      rcases isum_more ‹ISum _ _ _› hL hR ‹_› with ⟨h1, h2⟩ | ⟨h1, h2, h3⟩
      · first
        | exact Res.mk (by simp only [sumE, sumV, h1]; exact ⟨rfl, rfl⟩)
        | (exfalso; omega)
      · first
        | exact ⟨h2, h3⟩
        | (exfalso; omega))
    · obtain ⟨j, hj, rfl, hs, _⟩ := ‹ISum _ _ _›
      obtain rfl : j = ns.length := by omega
      rw [List.drop_length] at hs
      simp only [sumGo] at hs
      exact Res.mk (by simp [sumE, sumV, ← hs])
  · exact h.fail.elim

def T_fare_Total : TT := [(3, ⟨.int .i64, 1, 8, [.int .i64 0], some .int⟩),
  (4, ⟨.bool, 1, 1, [.bool false], some .bool⟩),
  (24, ⟨.slice 3, 1, 24, [.slice none 0 0], none⟩),
  (27, ⟨.int .i64, 1, 8, [.int .i64 0], none⟩),
  (40, ⟨.int .i64, 1, 8, [.int .i64 0], none⟩),
  (54, ⟨.slice 73, 1, 24, [.slice none 0 0], none⟩),
  (73, ⟨.strct [(0, 3), (1, 3), (2, 3), (3, 3), (4, 3), (5, 40), (6, 3), (7, 3), (8, 3), (9, 3)], 10, 80, [.int .i64 0, .int .i64 0, .int .i64 0, .int .i64 0, .int .i64 0, .int .i64 0, .int .i64 0, .int .i64 0, .int .i64 0, .int .i64 0], some .journey⟩)]
theorem tOk_fare_Total : TOk Try.prog T_fare_Total := tOk_of (by kernel_rfl)
def sp_fare_Total : Spec := fun args hp => match args, hp with
  | [.slF 0], [(0, .row o_js .journey js)] => .vc (js.length ≤ 2147483648) (.tup [iv (totV js), iv (totE js)]) []
  | _, _ => .fail "fare_Total"
abbrev k_fare_Total : List (Option RK) := [some .journey]
def a_fare_Total : List SV → List (Nat × VB) → Anns := fun args hp => match args, hp with
  | [.slF 0], [(0, .row o_js .journey js)] => [(5, fun S => .inv [] [] fun ids vs => { cars := [.i 12 .i64, .r 4 true .int], inv := fun ((i, ns, _) : Int × List Int × Unit) => ITot js i ns, mu := fun ((i, ns, _) : Int × List Int × Unit) => js.length - i.toNat })]
  | _, _ => []
set_option maxHeartbeats 20000000 in
theorem ok_fare_Total : GOk Try.prog 53 (lift k_fare_Total sp_fare_Total) := by
  refine pf_ok (T := T_fare_Total) (Γ := (54, lift k_fare_Good sp_fare_Good) :: (81, lift k_money_Sum sp_money_Sum) :: []) tOk_fare_Total (gOks_cons ok_fare_Good (gOks_cons ok_money_Sum (gOks_nil _))) mixed Try.func53 (c := body Try.f53) (by kernel_rfl) (by kernel_rfl) k_fare_Total sp_fare_Total (by kernel_rfl) (by kernel_rfl) a_fare_Total ?_
  intro args hp s u hfit h
  unfold sp_fare_Total at h
  split at h
  · rename_i o_js js
    obtain ⟨hvc, rfl, rfl⟩ := h.vc
    clear h hfit
    change List Journey at js
    conv => whnf
    repeat' (first
      | (refine And.intro ?_ ?_ <;> try conv => whnf)
      | (intro hh; first | (cases hh; done) | conv => whnf))
    all_goals try first | rfl | kernel_rfl
    all_goals try simp only [decide_eq_true_eq, decide_eq_false_iff_not] at *
    all_goals try simp only [Key_eta, Share_eta, Journey_eta, Batch_eta, FieldT_eta, OpB_eta, Product_eta, Key_beq, Share_beq, Journey_beq, FieldT_beq, Product_beq, toNat0, toNat1, toNat2, toNat3, toNat4, toNat5, toNat6, toNat7, toNat8, toNat9, toNat10, toNat11, toNat12, toNat13, toNat14, toNat15, toNat16, toNat17, toNat18, toNat19, iA, iOf, atS, zK, true_and, and_true, decide_eq_true_eq, decide_eq_false_iff_not, beq_iff_eq, bne_iff_ne, beq_eq_false_iff_ne, bne_eq_false_iff_eq, Bool.not_eq_true', Bool.not_eq_false', Bool.not_eq_true, Bool.not_eq_false, Nat.succ_eq_add_one, Int.not_lt, Int.not_le, gt_iff_lt, ge_iff_le, show bytesS T_fare_Total 24 = 8 from rfl, show bytesS T_fare_Total 54 = 80 from rfl] at *
    all_goals try (obtain ⟨j, hj, rfl, rfl⟩ := ‹ITot _ _ _›)
    all_goals try (refine Vc.mk ?_; omega)
    · exact Res.mk (by simp [totE, totV, *])
    · exact ⟨⟨0, Nat.zero_le _, rfl, rfl⟩⟩
    · refine Vc.mk ?_
      simp only [List.length_map, List.length_take, List.length_cons, List.length_nil]
      omega
    · have hlt : j < js.length := by omega
      refine ⟨⟨j + 1, by omega, by rw [wrap64] <;> omega, ?_⟩, by rw [wrap64] <;> omega⟩
      rw [take_getD (d := (⟨0, 0, 0, 0, 0, 0, 0, 0, 0, 0⟩ : Journey)) hlt, List.map_append]
      rfl
    · refine Vc.mk ⟨by rw [List.length_map, List.length_take]; omega, ?_⟩
      intro n hn
      obtain ⟨x, hx, rfl⟩ := List.mem_map.1 hn
      have := fares_in ‹good js = true› x.fare (List.mem_map.2 ⟨x, List.mem_of_mem_take hx, rfl⟩)
      show (-9223372036854775808 : Int) ≤ x.fare ∧ x.fare ≤ 9223372036854775807
      omega
    · obtain rfl : j = js.length := by omega
      rw [List.take_length]
      have := sumGo_sum (a := 0) (fares_in ‹good js = true›) (by decide) (by rw [List.length_map]; omega)
      exact Res.mk (by simp [sumE, sumV, totE, totV, this, *])
  · exact h.fail.elim

def T_fare_right_1 : TT := [(3, ⟨.int .i64, 1, 8, [.int .i64 0], some .int⟩),
  (4, ⟨.bool, 1, 1, [.bool false], some .bool⟩),
  (40, ⟨.int .i64, 1, 8, [.int .i64 0], none⟩),
  (54, ⟨.slice 73, 1, 24, [.slice none 0 0], none⟩),
  (56, ⟨.strct [(0, 3), (1, 3), (2, 54)], 3, 40, [.int .i64 0, .int .i64 0, .slice none 0 0], some .batch⟩),
  (73, ⟨.strct [(0, 3), (1, 3), (2, 3), (3, 3), (4, 3), (5, 40), (6, 3), (7, 3), (8, 3), (9, 3)], 10, 80, [.int .i64 0, .int .i64 0, .int .i64 0, .int .i64 0, .int .i64 0, .int .i64 0, .int .i64 0, .int .i64 0, .int .i64 0, .int .i64 0], some .journey⟩)]
theorem tOk_fare_right_1 : TOk Try.prog T_fare_right_1 := tOk_of (by kernel_rfl)
def sp_fare_right_1 : Spec := fun args hp => match args, hp with
  | [.agg j_cs, .ptr 0 0, .ptr 1 0], [(0, .cells [.val (.int .i64 x_op), .val (.int .i64 x_n), .slF 2]), (1, .cells [.val (.int .i64 last_v)]), (2, .row o_x_js .journey x_js)] => (match decS .journey j_cs with
    | some j => .ok (bv (decide (j.op ≠ x_op) || decide (j.seq ≤ last_v))) [(1, some (.cells [iv j.seq]))]
    | none => .fail "struct")
  | _, _ => .fail "fare_right_1"
abbrev k_fare_right_1 : List (Option RK) := [none, none, none]
def a_fare_right_1 : List SV → List (Nat × VB) → Anns := fun _ _ => []
set_option maxHeartbeats 20000000 in
theorem ok_fare_right_1 : GOk Try.prog 88 (lift k_fare_right_1 sp_fare_right_1) := by
  refine pf_ok (T := T_fare_right_1) (Γ := []) tOk_fare_right_1 (gOks_nil _) mixed Try.func88 (c := body Try.f88) (by kernel_rfl) (by kernel_rfl) k_fare_right_1 sp_fare_right_1 (by kernel_rfl) (by kernel_rfl) a_fare_right_1 ?_
  intro args hp s u hfit h
  unfold sp_fare_right_1 at h
  split at h
  · rename_i j_cs x_op x_n last_v o_x_js x_js
    split at h
    case h_2 => exact h.fail.elim
    rename_i j h_j
    obtain rfl := decS_ok (k := .journey) rfl h_j
    clear h_j
    change Journey at j
    obtain ⟨rfl, rfl⟩ := h.ok
    clear h hfit
    conv => whnf
    repeat' (first
      | (refine And.intro ?_ ?_ <;> try conv => whnf)
      | (intro hh; first | (cases hh; done) | conv => whnf))
    all_goals try first | rfl | kernel_rfl
    all_goals try simp only [decide_eq_true_eq, decide_eq_false_iff_not] at *
    all_goals try simp only [Key_eta, Share_eta, Journey_eta, Batch_eta, FieldT_eta, OpB_eta, Product_eta, Key_beq, Share_beq, Journey_beq, FieldT_beq, Product_beq, toNat0, toNat1, toNat2, toNat3, toNat4, toNat5, toNat6, toNat7, toNat8, toNat9, toNat10, toNat11, toNat12, toNat13, toNat14, toNat15, toNat16, toNat17, toNat18, toNat19, iA, iOf, atS, zK, true_and, and_true, decide_eq_true_eq, decide_eq_false_iff_not, beq_iff_eq, bne_iff_ne, beq_eq_false_iff_ne, bne_eq_false_iff_eq, Bool.not_eq_true', Bool.not_eq_false', Bool.not_eq_true, Bool.not_eq_false, Nat.succ_eq_add_one, Int.not_lt, Int.not_le, gt_iff_lt, ge_iff_le, show bytesS T_fare_right_1 54 = 80 from rfl] at *
    all_goals exact Res.mk (by simp [*])
  · exact h.fail.elim

def T_slices_IndexFunc_api_Journey_api_JourneyR1 : TT := [(3, ⟨.int .i64, 1, 8, [.int .i64 0], some .int⟩),
  (4, ⟨.bool, 1, 1, [.bool false], some .bool⟩),
  (40, ⟨.int .i64, 1, 8, [.int .i64 0], none⟩),
  (54, ⟨.slice 73, 1, 24, [.slice none 0 0], none⟩),
  (73, ⟨.strct [(0, 3), (1, 3), (2, 3), (3, 3), (4, 3), (5, 40), (6, 3), (7, 3), (8, 3), (9, 3)], 10, 80, [.int .i64 0, .int .i64 0, .int .i64 0, .int .i64 0, .int .i64 0, .int .i64 0, .int .i64 0, .int .i64 0, .int .i64 0, .int .i64 0], some .journey⟩),
  (87, ⟨.other, 1, 8, [.nilFunc], none⟩)]
theorem tOk_slices_IndexFunc_api_Journey_api_JourneyR1 : TOk Try.prog T_slices_IndexFunc_api_Journey_api_JourneyR1 := tOk_of (by kernel_rfl)
def sp_slices_IndexFunc_api_Journey_api_JourneyR1 : Spec := fun args hp => match args, hp with
  | [.slF 0, .fn (.func 88) [] [.ptr 1 0, .ptr 2 0]], [(0, .row o_js .journey js), (1, .cells [.val (.int .i64 x_op), .val (.int .i64 x_n), .slF 0]), (2, .cells [.val (.int .i64 last_v)])] => .vc (js.length ≤ 1099511627776 ∧ last_v = 0) (iv (scanJ x_op 0 js 0).1) [(2, some (.cells [iv (scanJ x_op 0 js 0).2]))]
  | _, _ => .fail "slices_IndexFunc_api_Journey_api_JourneyR1"
abbrev k_slices_IndexFunc_api_Journey_api_JourneyR1 : List (Option RK) := [some .journey, none]
def a_slices_IndexFunc_api_Journey_api_JourneyR1 : List SV → List (Nat × VB) → Anns := fun args hp => match args, hp with
  | [.slF 0, .fn (.func 88) [] [.ptr 1 0, .ptr 2 0]], [(0, .row o_js .journey js), (1, .cells [.val (.int .i64 x_op), .val (.int .i64 x_n), .slF 0]), (2, .cells [.val (.int .i64 last_v)])] => [(2, fun S => .inv [2] [] fun ids vs => { cars := [.i 8 .i64, .blk (atN ids 0) [.i .i64]], inv := fun ((i, (last, _), _) : Int × (Int × Unit) × Unit) => ISc x_op js i last, mu := fun ((i, (last, _), _) : Int × (Int × Unit) × Unit) => js.length - i.toNat })]
  | _, _ => []
set_option maxHeartbeats 20000000 in
theorem ok_slices_IndexFunc_api_Journey_api_JourneyR1 : GOk Try.prog 93 (lift k_slices_IndexFunc_api_Journey_api_JourneyR1 sp_slices_IndexFunc_api_Journey_api_JourneyR1) := by
  refine pf_ok (T := T_slices_IndexFunc_api_Journey_api_JourneyR1) (Γ := (88, lift k_fare_right_1 sp_fare_right_1) :: []) tOk_slices_IndexFunc_api_Journey_api_JourneyR1 (gOks_cons ok_fare_right_1 (gOks_nil _)) mixed Try.func93 (c := body Try.f93) (by kernel_rfl) (by kernel_rfl) k_slices_IndexFunc_api_Journey_api_JourneyR1 sp_slices_IndexFunc_api_Journey_api_JourneyR1 (by kernel_rfl) (by kernel_rfl) a_slices_IndexFunc_api_Journey_api_JourneyR1 ?_
  intro args hp s u hfit h
  unfold sp_slices_IndexFunc_api_Journey_api_JourneyR1 at h
  split at h
  · rename_i o_js js x_op x_n last_v
    obtain ⟨hvc, rfl, rfl⟩ := h.vc
    clear h hfit
    change List Journey at js
    conv => whnf
    repeat' (first
      | (refine And.intro ?_ ?_ <;> try conv => whnf)
      | (intro hh; first | (cases hh; done) | conv => whnf))
    all_goals try first | rfl | kernel_rfl
    all_goals try simp only [decide_eq_true_eq, decide_eq_false_iff_not] at *
    all_goals try simp only [Key_eta, Share_eta, Journey_eta, Batch_eta, FieldT_eta, OpB_eta, Product_eta, Key_beq, Share_beq, Journey_beq, FieldT_beq, Product_beq, toNat0, toNat1, toNat2, toNat3, toNat4, toNat5, toNat6, toNat7, toNat8, toNat9, toNat10, toNat11, toNat12, toNat13, toNat14, toNat15, toNat16, toNat17, toNat18, toNat19, iA, iOf, atS, zK, true_and, and_true, decide_eq_true_eq, decide_eq_false_iff_not, beq_iff_eq, bne_iff_ne, beq_eq_false_iff_ne, bne_eq_false_iff_eq, Bool.not_eq_true', Bool.not_eq_false', Bool.not_eq_true, Bool.not_eq_false, Nat.succ_eq_add_one, Int.not_lt, Int.not_le, gt_iff_lt, ge_iff_le, show bytesS T_slices_IndexFunc_api_Journey_api_JourneyR1 54 = 80 from rfl] at *
    all_goals obtain ⟨hL, rfl⟩ := hvc
    all_goals try (refine Vc.mk ?_; obtain ⟨j, hj, rfl, _⟩ := ‹ISc _ _ _ _›; omega)
    · exact ⟨⟨0, Nat.zero_le _, rfl, rfl⟩⟩
    · have h := (isc_more ‹ISc _ _ _ _› hL ‹_ < _›).1 ‹_›
      exact Res.mk (by rw [h]; exact ⟨rfl, rfl⟩)
    · have h := (isc_more ‹ISc _ _ _ _› hL ‹_ < _›).2 ‹_›
      exact ⟨h.1, h.2⟩
    · have h := scanJ_end ‹ISc _ _ _ _› ‹_›
      exact Res.mk (by rw [h]; exact ⟨rfl, rfl⟩)
  · exact h.fail.elim

def T_slices_ContainsFunc_api_Journey_api_JourneyR1 : TT := [(3, ⟨.int .i64, 1, 8, [.int .i64 0], some .int⟩),
  (4, ⟨.bool, 1, 1, [.bool false], some .bool⟩),
  (40, ⟨.int .i64, 1, 8, [.int .i64 0], none⟩),
  (54, ⟨.slice 73, 1, 24, [.slice none 0 0], none⟩),
  (73, ⟨.strct [(0, 3), (1, 3), (2, 3), (3, 3), (4, 3), (5, 40), (6, 3), (7, 3), (8, 3), (9, 3)], 10, 80, [.int .i64 0, .int .i64 0, .int .i64 0, .int .i64 0, .int .i64 0, .int .i64 0, .int .i64 0, .int .i64 0, .int .i64 0, .int .i64 0], some .journey⟩),
  (87, ⟨.other, 1, 8, [.nilFunc], none⟩)]
theorem tOk_slices_ContainsFunc_api_Journey_api_JourneyR1 : TOk Try.prog T_slices_ContainsFunc_api_Journey_api_JourneyR1 := tOk_of (by kernel_rfl)
def sp_slices_ContainsFunc_api_Journey_api_JourneyR1 : Spec := fun args hp => match args, hp with
  | [.slF 0, .fn (.func 88) [] [.ptr 1 0, .ptr 2 0]], [(0, .row o_js .journey js), (1, .cells [.val (.int .i64 x_op), .val (.int .i64 x_n), .slF 0]), (2, .cells [.val (.int .i64 last_v)])] => .vc (js.length ≤ 1099511627776 ∧ last_v = 0) (bv (decide (0 ≤ (scanJ x_op 0 js 0).1))) [(2, some (.cells [iv (scanJ x_op 0 js 0).2]))]
  | _, _ => .fail "slices_ContainsFunc_api_Journey_api_JourneyR1"
abbrev k_slices_ContainsFunc_api_Journey_api_JourneyR1 : List (Option RK) := [some .journey, none]
def a_slices_ContainsFunc_api_Journey_api_JourneyR1 : List SV → List (Nat × VB) → Anns := fun _ _ => []
set_option maxHeartbeats 20000000 in
theorem ok_slices_ContainsFunc_api_Journey_api_JourneyR1 : GOk Try.prog 87 (lift k_slices_ContainsFunc_api_Journey_api_JourneyR1 sp_slices_ContainsFunc_api_Journey_api_JourneyR1) := by
  refine pf_ok (T := T_slices_ContainsFunc_api_Journey_api_JourneyR1) (Γ := (93, lift k_slices_IndexFunc_api_Journey_api_JourneyR1 sp_slices_IndexFunc_api_Journey_api_JourneyR1) :: []) tOk_slices_ContainsFunc_api_Journey_api_JourneyR1 (gOks_cons ok_slices_IndexFunc_api_Journey_api_JourneyR1 (gOks_nil _)) mixed Try.func87 (c := body Try.f87) (by kernel_rfl) (by kernel_rfl) k_slices_ContainsFunc_api_Journey_api_JourneyR1 sp_slices_ContainsFunc_api_Journey_api_JourneyR1 (by kernel_rfl) (by kernel_rfl) a_slices_ContainsFunc_api_Journey_api_JourneyR1 ?_
  intro args hp s u hfit h
  unfold sp_slices_ContainsFunc_api_Journey_api_JourneyR1 at h
  split at h
  · rename_i o_js js x_op x_n last_v
    obtain ⟨hvc, rfl, rfl⟩ := h.vc
    clear h hfit
    change List Journey at js
    conv => whnf
    repeat' (first
      | (refine And.intro ?_ ?_ <;> try conv => whnf)
      | (intro hh; first | (cases hh; done) | conv => whnf))
    all_goals try first | rfl | kernel_rfl
    all_goals try simp only [decide_eq_true_eq, decide_eq_false_iff_not] at *
    all_goals try simp only [Key_eta, Share_eta, Journey_eta, Batch_eta, FieldT_eta, OpB_eta, Product_eta, Key_beq, Share_beq, Journey_beq, FieldT_beq, Product_beq, toNat0, toNat1, toNat2, toNat3, toNat4, toNat5, toNat6, toNat7, toNat8, toNat9, toNat10, toNat11, toNat12, toNat13, toNat14, toNat15, toNat16, toNat17, toNat18, toNat19, iA, iOf, atS, zK, true_and, and_true, decide_eq_true_eq, decide_eq_false_iff_not, beq_iff_eq, bne_iff_ne, beq_eq_false_iff_ne, bne_eq_false_iff_eq, Bool.not_eq_true', Bool.not_eq_false', Bool.not_eq_true, Bool.not_eq_false, Nat.succ_eq_add_one, Int.not_lt, Int.not_le, gt_iff_lt, ge_iff_le, show bytesS T_slices_ContainsFunc_api_Journey_api_JourneyR1 54 = 80 from rfl] at *
    all_goals first | exact Vc.mk hvc | exact Res.mk trivial
  · exact h.fail.elim

def T_fare_right : TT := [(3, ⟨.int .i64, 1, 8, [.int .i64 0], some .int⟩),
  (4, ⟨.bool, 1, 1, [.bool false], some .bool⟩),
  (24, ⟨.slice 3, 1, 24, [.slice none 0 0], none⟩),
  (40, ⟨.int .i64, 1, 8, [.int .i64 0], none⟩),
  (54, ⟨.slice 73, 1, 24, [.slice none 0 0], none⟩),
  (56, ⟨.strct [(0, 3), (1, 3), (2, 54)], 3, 40, [.int .i64 0, .int .i64 0, .slice none 0 0], some .batch⟩),
  (73, ⟨.strct [(0, 3), (1, 3), (2, 3), (3, 3), (4, 3), (5, 40), (6, 3), (7, 3), (8, 3), (9, 3)], 10, 80, [.int .i64 0, .int .i64 0, .int .i64 0, .int .i64 0, .int .i64 0, .int .i64 0, .int .i64 0, .int .i64 0, .int .i64 0, .int .i64 0], some .journey⟩),
  (87, ⟨.other, 1, 8, [.nilFunc], none⟩)]
theorem tOk_fare_right : TOk Try.prog T_fare_right := tOk_of (by kernel_rfl)
def sp_fare_right : Spec := fun args hp => match args, hp with
  | [.agg [.val (.int .i64 x_op), .val (.int .i64 x_n), .slF 0]], [(0, .row o_x_js .journey x_js)] => .vc ((⟨x_op, x_n, x_js⟩ : Batch).js.length ≤ 1099511627776) (bv (rightB (⟨x_op, x_n, x_js⟩ : Batch))) []
  | _, _ => .fail "fare_right"
abbrev k_fare_right : List (Option RK) := [none]
def a_fare_right : List SV → List (Nat × VB) → Anns := fun _ _ => []
set_option maxHeartbeats 20000000 in
theorem ok_fare_right : GOk Try.prog 64 (lift k_fare_right sp_fare_right) := by
  refine pf_ok (T := T_fare_right) (Γ := (63, lift k_fare_in sp_fare_in) :: (54, lift k_fare_Good sp_fare_Good) :: (87, lift k_slices_ContainsFunc_api_Journey_api_JourneyR1 sp_slices_ContainsFunc_api_Journey_api_JourneyR1) :: []) tOk_fare_right (gOks_cons ok_fare_in (gOks_cons ok_fare_Good (gOks_cons ok_slices_ContainsFunc_api_Journey_api_JourneyR1 (gOks_nil _)))) mixed Try.func64 (c := body Try.f64) (by kernel_rfl) (by kernel_rfl) k_fare_right sp_fare_right (by kernel_rfl) (by kernel_rfl) a_fare_right ?_
  intro args hp s u hfit h
  unfold sp_fare_right at h
  split at h
  · rename_i x_op x_n o_x_js x_js
    obtain ⟨hvc, rfl, rfl⟩ := h.vc
    clear h hfit
    conv => whnf
    repeat' (first
      | (refine And.intro ?_ ?_ <;> try conv => whnf)
      | (intro hh; first | (cases hh; done) | conv => whnf))
    all_goals try first | rfl | kernel_rfl
    all_goals try simp only [decide_eq_true_eq, decide_eq_false_iff_not] at *
    all_goals try simp only [Key_eta, Share_eta, Journey_eta, Batch_eta, FieldT_eta, OpB_eta, Product_eta, Key_beq, Share_beq, Journey_beq, FieldT_beq, Product_beq, toNat0, toNat1, toNat2, toNat3, toNat4, toNat5, toNat6, toNat7, toNat8, toNat9, toNat10, toNat11, toNat12, toNat13, toNat14, toNat15, toNat16, toNat17, toNat18, toNat19, iA, iOf, atS, zK, true_and, and_true, decide_eq_true_eq, decide_eq_false_iff_not, beq_iff_eq, bne_iff_ne, beq_eq_false_iff_ne, bne_eq_false_iff_eq, Bool.not_eq_true', Bool.not_eq_false', Bool.not_eq_true, Bool.not_eq_false, Nat.succ_eq_add_one, Int.not_lt, Int.not_le, gt_iff_lt, ge_iff_le, show bytesS T_fare_right 24 = 8 from rfl, show bytesS T_fare_right 54 = 80 from rfl] at *
    all_goals try (refine Vc.mk ?_; first | omega | (simp only [List.length_cons, List.length_nil]; omega) | (simp only [List.length_cons, List.length_nil]; exact ⟨by omega, rfl⟩))
    all_goals try (refine Res.mk ?_; simp only [rightB, *, Bool.false_and, Bool.and_false]; done)
    all_goals (refine Res.mk ?_; simp only [rightB, *, Bool.true_and]; rw [Bool.eq_iff_iff]; simp)
  · exact h.fail.elim

def T_fare_PutBatch : TT := [(3, ⟨.int .i64, 1, 8, [.int .i64 0], some .int⟩),
  (4, ⟨.bool, 1, 1, [.bool false], some .bool⟩),
  (5, ⟨.int .u8, 1, 1, [.int .u8 0], some .u8⟩),
  (27, ⟨.int .i64, 1, 8, [.int .i64 0], none⟩),
  (40, ⟨.int .i64, 1, 8, [.int .i64 0], none⟩),
  (54, ⟨.slice 73, 1, 24, [.slice none 0 0], none⟩),
  (56, ⟨.strct [(0, 3), (1, 3), (2, 54)], 3, 40, [.int .i64 0, .int .i64 0, .slice none 0 0], some .batch⟩),
  (57, ⟨.slice 5, 1, 24, [.slice none 0 0], none⟩),
  (73, ⟨.strct [(0, 3), (1, 3), (2, 3), (3, 3), (4, 3), (5, 40), (6, 3), (7, 3), (8, 3), (9, 3)], 10, 80, [.int .i64 0, .int .i64 0, .int .i64 0, .int .i64 0, .int .i64 0, .int .i64 0, .int .i64 0, .int .i64 0, .int .i64 0, .int .i64 0], some .journey⟩),
  (109, ⟨.strct [(0, 57), (1, 3)], 2, 32, [.slice none 0 0, .int .i64 0], none⟩),
  (112, ⟨.strct [(0, 3), (1, 3)], 2, 16, [.int .i64 0, .int .i64 0], some .fieldT⟩),
  (136, ⟨.slice 112, 1, 24, [.slice none 0 0], none⟩)]
theorem tOk_fare_PutBatch : TOk Try.prog T_fare_PutBatch := tOk_of (by kernel_rfl)
def sp_fare_PutBatch : Spec := fun args hp => match args, hp with
  | [.agg [.val (.int .i64 x_op), .val (.int .i64 x_n), .slF 0]], [(0, .row o_x_js .journey x_js)] => .vc ((⟨x_op, x_n, x_js⟩ : Batch).js.length ≤ 4294967296) (.tup [.slF 2000, iv (putBE (⟨x_op, x_n, x_js⟩ : Batch))]) [(2000, some (.row true .u8 (putBB (⟨x_op, x_n, x_js⟩ : Batch))))]
  | _, _ => .fail "fare_PutBatch"
abbrev k_fare_PutBatch : List (Option RK) := [none]
def a_fare_PutBatch : List SV → List (Nat × VB) → Anns := fun _ _ => []
set_option maxHeartbeats 20000000 in
theorem ok_fare_PutBatch : GOk Try.prog 35 (lift k_fare_PutBatch sp_fare_PutBatch) := by
  refine pf_ok (T := T_fare_PutBatch) (Γ := (64, lift k_fare_right sp_fare_right) :: (65, lift k_bits_Writer_Put sp_bits_Writer_Put) :: (52, lift k_fare_Put sp_fare_Put) :: (66, lift k_bits_Writer_Bytes sp_bits_Writer_Bytes) :: []) tOk_fare_PutBatch (gOks_cons ok_fare_right (gOks_cons ok_bits_Writer_Put (gOks_cons ok_fare_Put (gOks_cons ok_bits_Writer_Bytes (gOks_nil _))))) mixed Try.func35 (c := body Try.f35) (by kernel_rfl) (by kernel_rfl) k_fare_PutBatch sp_fare_PutBatch (by kernel_rfl) (by kernel_rfl) a_fare_PutBatch ?_
  intro args hp s u hfit h
  unfold sp_fare_PutBatch at h
  split at h
  · rename_i x_op x_n o_x_js x_js
    obtain ⟨hvc, rfl, rfl⟩ := h.vc
    clear h hfit
    conv => whnf
    repeat' (first
      | (refine And.intro ?_ ?_ <;> try conv => whnf)
      | (intro hh; first | (cases hh; done) | conv => whnf))
    all_goals try first | rfl | kernel_rfl
    all_goals try simp only [decide_eq_true_eq, decide_eq_false_iff_not] at *
    all_goals try simp only [Key_eta, Share_eta, Journey_eta, Batch_eta, FieldT_eta, OpB_eta, Product_eta, Key_beq, Share_beq, Journey_beq, FieldT_beq, Product_beq, toNat0, toNat1, toNat2, toNat3, toNat4, toNat5, toNat6, toNat7, toNat8, toNat9, toNat10, toNat11, toNat12, toNat13, toNat14, toNat15, toNat16, toNat17, toNat18, toNat19, iA, iOf, atS, zK, true_and, and_true, decide_eq_true_eq, decide_eq_false_iff_not, beq_iff_eq, bne_iff_ne, beq_eq_false_iff_ne, bne_eq_false_iff_eq, Bool.not_eq_true', Bool.not_eq_false', Bool.not_eq_true, Bool.not_eq_false, Nat.succ_eq_add_one, Int.not_lt, Int.not_le, gt_iff_lt, ge_iff_le, show bytesS T_fare_PutBatch 54 = 80 from rfl, show bytesS T_fare_PutBatch 57 = 1 from rfl, show bytesS T_fare_PutBatch 136 = 16 from rfl] at *
    · exact Vc.mk (by omega)
    · exact Res.mk (by simp [putBB, putBE, *])
    all_goals (
      have hr := ‹rightB _ = true›
      have h3 := put3 hr
      obtain ⟨h1, h2, h4, h5, h6⟩ := (rightB_iff _).1 hr
      try simp only at h3 h5 h4
      have h7 := form_length x_js)
    · exact Vc.mk ⟨by simp, by intro f hf; simp at hf; rcases hf with rfl | rfl | rfl <;> rfl, by simp⟩
    · exact Vc.mk (by omega)
    · rw [h3]; exact Vc.mk (by simp [be_length])
    · rw [h3]; exact Vc.mk (by simp [be_length, putJ, h5]; omega)
    · rw [h3]; exact Res.mk (by simp [putBB, putBE, putJ, hr, h5])
  · exact h.fail.elim

def T_fare_GetBatch : TT := [(3, ⟨.int .i64, 1, 8, [.int .i64 0], some .int⟩),
  (4, ⟨.bool, 1, 1, [.bool false], some .bool⟩),
  (5, ⟨.int .u8, 1, 1, [.int .u8 0], some .u8⟩),
  (24, ⟨.slice 3, 1, 24, [.slice none 0 0], none⟩),
  (27, ⟨.int .i64, 1, 8, [.int .i64 0], none⟩),
  (40, ⟨.int .i64, 1, 8, [.int .i64 0], none⟩),
  (54, ⟨.slice 73, 1, 24, [.slice none 0 0], none⟩),
  (56, ⟨.strct [(0, 3), (1, 3), (2, 54)], 3, 40, [.int .i64 0, .int .i64 0, .slice none 0 0], some .batch⟩),
  (57, ⟨.slice 5, 1, 24, [.slice none 0 0], none⟩),
  (73, ⟨.strct [(0, 3), (1, 3), (2, 3), (3, 3), (4, 3), (5, 40), (6, 3), (7, 3), (8, 3), (9, 3)], 10, 80, [.int .i64 0, .int .i64 0, .int .i64 0, .int .i64 0, .int .i64 0, .int .i64 0, .int .i64 0, .int .i64 0, .int .i64 0, .int .i64 0], some .journey⟩),
  (114, ⟨.ptr, 1, 8, [.pointer none], none⟩)]
theorem tOk_fare_GetBatch : TOk Try.prog T_fare_GetBatch := tOk_of (by kernel_rfl)
def sp_fare_GetBatch : Spec := fun args hp => match args, hp with
  | [.slF 0], [(0, .row o_b .u8 b)] => .vc (isB b ∧ b.length ≤ 1099511627776) (.tup [.agg [iv (getB b).op, iv (getB b).n, .slF 2000], iv (getBE b)]) [(2000, some (.row true .journey (getB b).js))]
  | _, _ => .fail "fare_GetBatch"
abbrev k_fare_GetBatch : List (Option RK) := [some .u8]
def a_fare_GetBatch : List SV → List (Nat × VB) → Anns := fun _ _ => []
set_option maxHeartbeats 20000000 in
theorem ok_fare_GetBatch : GOk Try.prog 37 (lift k_fare_GetBatch sp_fare_GetBatch) := by
  refine pf_ok (T := T_fare_GetBatch) (Γ := (67, lift k_bits_Read sp_bits_Read) :: (68, lift k_bits_Reader_Take sp_bits_Reader_Take) :: (55, lift k_fare_GetP sp_fare_GetP) :: (64, lift k_fare_right sp_fare_right) :: []) tOk_fare_GetBatch (gOks_cons ok_bits_Read (gOks_cons ok_bits_Reader_Take (gOks_cons ok_fare_GetP (gOks_cons ok_fare_right (gOks_nil _))))) mixed Try.func37 (c := body Try.f37) (by kernel_rfl) (by kernel_rfl) k_fare_GetBatch sp_fare_GetBatch (by kernel_rfl) (by kernel_rfl) a_fare_GetBatch ?_
  intro args hp s u hfit h
  unfold sp_fare_GetBatch at h
  split at h
  · rename_i o_b b
    obtain ⟨hvc, rfl, rfl⟩ := h.vc
    clear h hfit
    change List Int at b
    conv => whnf
    repeat' (first
      | (refine And.intro ?_ ?_ <;> try conv => whnf)
      | (intro hh; first | (cases hh; done) | conv => whnf))
    all_goals try first | rfl | kernel_rfl
    all_goals try simp only [decide_eq_true_eq, decide_eq_false_iff_not] at *
    all_goals try simp only [Key_eta, Share_eta, Journey_eta, Batch_eta, FieldT_eta, OpB_eta, Product_eta, Key_beq, Share_beq, Journey_beq, FieldT_beq, Product_beq, toNat0, toNat1, toNat2, toNat3, toNat4, toNat5, toNat6, toNat7, toNat8, toNat9, toNat10, toNat11, toNat12, toNat13, toNat14, toNat15, toNat16, toNat17, toNat18, toNat19, iA, iOf, atS, zK, true_and, and_true, decide_eq_true_eq, decide_eq_false_iff_not, beq_iff_eq, bne_iff_ne, beq_eq_false_iff_ne, bne_eq_false_iff_eq, Bool.not_eq_true', Bool.not_eq_false', Bool.not_eq_true, Bool.not_eq_false, Nat.succ_eq_add_one, Int.not_lt, Int.not_le, gt_iff_lt, ge_iff_le, show bytesS T_fare_GetBatch 24 = 8 from rfl, show bytesS T_fare_GetBatch 54 = 80 from rfl, show bytesS T_fare_GetBatch 57 = 1 from rfl] at *
    all_goals obtain ⟨hB, hL⟩ := hvc
    all_goals have hd5 := hB.getD 5
    all_goals try simp only [show takeN b 0 0 [8, 32, 8] = headL b from rfl] at *
    all_goals have ht : (b.drop 6).take (b.length - 6) = b.drop 6 := List.take_of_length_le (by rw [List.length_drop]; exact Nat.le_refl _)
    all_goals try rw [ht]
    all_goals rcases headC b with ⟨c1, c2⟩ | ⟨c1, c2, c3⟩
    all_goals try (have c4 : (headL b).length = 0 := by rw [c2]; rfl)
    all_goals try (
      have c5 : IntKind.i64.wrap (6 + IntKind.i64.wrap (19 * (headL b).getD 2 0)) = 6 + 19 * b.getD 5 0 := by rw [c3, wrap64 (n := 19 * _) (by omega) (by omega), wrap64 (by omega) (by omega)])
    all_goals try (refine Vc.mk ?_; omega)
    all_goals try (exact Vc.mk ⟨by omega, by omega, by omega, w3, hB, hL, by simp⟩)
    all_goals try (exact Vc.mk ⟨hB.drop 6, by rw [List.length_drop]; omega⟩)
    all_goals try (exact Vc.mk (by have := getJ_length (b.drop 6); rw [List.length_drop] at this; omega))
    all_goals try (exfalso; omega)
    all_goals try (
      have e : getBE b = 10 := by unfold getBE; rw [if_pos (by omega)]
      exact Res.mk (by unfold getB; rw [if_neg (by rw [e]; decide), e]; exact ⟨rfl, rfl, rfl, rfl⟩))
    all_goals try (
      have e : getBE b = 14 := by unfold getBE; rw [if_neg (by omega), if_pos (by omega)]
      exact Res.mk (by unfold getB; rw [if_neg (by rw [e]; decide), e]; exact ⟨rfl, rfl, rfl, rfl⟩))
    all_goals (have hq := ‹rightB _ = _›; rw [ht] at hq)
    · have hr : rightB (batchOf b) = false := hq
      have e : getBE b = 12 := by unfold getBE; rw [if_neg (by omega), if_neg (by omega), hr]; rfl
      exact Res.mk (by unfold getB; rw [if_neg (by rw [e]; decide), e]; exact ⟨rfl, rfl, rfl, rfl⟩)
    · have hr : rightB (batchOf b) = true := hq
      have e : getBE b = 0 := by unfold getBE; rw [if_neg (by omega), if_neg (by omega), hr]; rfl
      exact Res.mk (by unfold getB; rw [if_pos e, e]; exact ⟨rfl, rfl, rfl, rfl⟩)
  · exact h.fail.elim

end Go.Proofs.Ytncdakkigkmfjaa.Sx
