import Derived.Test.YtncdakkigkmfjaaProg
import Derived.Test.YtncdakkigkmfjaaSxU
import Derived.IntWalk
import Derived.Test.YtncdakkigkmfjaaF2s0
/-! fare -/
namespace Go.Proofs.Ytncdakkigkmfjaa.Sx
open Go
set_option linter.unusedVariables false
set_option linter.unusedSimpArgs false
set_option maxRecDepth 100000

def T_fare_in : TT := [(3, ⟨.int .i64, 1, 8, [.int .i64 0], some .int⟩),
  (4, ⟨.bool, 1, 1, [.bool false], some .bool⟩),
  (24, ⟨.slice 3, 1, 24, [.slice none 0 0], none⟩)]
theorem tOk_fare_in : TOk Try.prog T_fare_in := tOk_of (by kernel_rfl)
def sp_fare_in : Spec := fun args hp => match args, hp with
  | [.val (.int .i64 lo), .val (.int .i64 hi), .slF 0], [(0, .row o_ns .int ns)] => .vc (ns.length ≤ 1099511627776) (bv (inR lo hi ns)) []
  | _, _ => .fail "fare_in"
abbrev k_fare_in : List (Option RK) := [none, none, some .int]
def a_fare_in : List SV → List (Nat × VB) → Anns := fun args hp => match args, hp with
  | [.val (.int .i64 lo), .val (.int .i64 hi), .slF 0], [(0, .row o_ns .int ns)] => [(2, fun S => .inv [] [] fun ids vs => { cars := [.i 11 .i64], inv := fun ((i, _) : Int × Unit) => IIn lo hi ns i, mu := fun ((i, _) : Int × Unit) => ns.length - i.toNat })]
  | _, _ => []
set_option maxHeartbeats 20000000 in
theorem ok_fare_in : GOk Try.prog 63 (lift k_fare_in sp_fare_in) := by
  refine pf_ok (T := T_fare_in) (Γ := []) tOk_fare_in (gOks_nil _) mixed Try.func63 (c := body Try.f63) (by kernel_rfl) (by kernel_rfl) k_fare_in sp_fare_in (by kernel_rfl) (by kernel_rfl) a_fare_in ?_
  intro args hp s u hfit h
  unfold sp_fare_in at h
  split at h
  · rename_i lo hi o_ns ns
    obtain ⟨hvc, rfl, rfl⟩ := h.vc
    clear h hfit
    change List Int at ns
    conv => whnf
    repeat' (first
      | (refine And.intro ?_ ?_ <;> try conv => whnf)
      | (intro hh; first | (cases hh; done) | conv => whnf))
    all_goals try first | rfl | kernel_rfl
    all_goals try simp only [decide_eq_true_eq, decide_eq_false_iff_not] at *
    all_goals try simp only [Key_eta, Share_eta, Journey_eta, Batch_eta, FieldT_eta, OpB_eta, Product_eta, Key_beq, Share_beq, Journey_beq, FieldT_beq, Product_beq, toNat0, toNat1, toNat2, toNat3, toNat4, toNat5, toNat6, toNat7, toNat8, toNat9, toNat10, toNat11, toNat12, toNat13, toNat14, toNat15, toNat16, toNat17, toNat18, toNat19, iA, iOf, atS, zK, true_and, and_true, decide_eq_true_eq, decide_eq_false_iff_not, beq_iff_eq, bne_iff_ne, beq_eq_false_iff_ne, bne_eq_false_iff_eq, Bool.not_eq_true', Bool.not_eq_false', Bool.not_eq_true, Bool.not_eq_false, Nat.succ_eq_add_one, Int.not_lt, Int.not_le, gt_iff_lt, ge_iff_le, show bytesS T_fare_in 24 = 8 from rfl] at *
    all_goals try (
      obtain ⟨j, hj, rfl, hr⟩ := ‹IIn _ _ _ _›
      (try simp only [Int.toNat_natCast] at *))
    all_goals try (refine Vc.mk ?_; omega)
    · exact ⟨⟨0, Nat.zero_le _, rfl, by simp [inR]⟩⟩
    · exact Res.mk (not_inR (j := j) (by omega) (by omega)).symm
    · exact Res.mk (not_inR (j := j) (by omega) (by omega)).symm
    · have hlt : j < ns.length := by omega
      refine ⟨⟨j + 1, by omega, by rw [wrap64] <;> omega, ?_⟩, by rw [wrap64] <;> omega⟩
      rw [take_succ hlt, inR_snoc, hr]
      simp only [Bool.true_and, Bool.and_eq_true, decide_eq_true_eq]
      omega
    · obtain rfl : j = ns.length := by omega
      rw [List.take_length] at hr
      exact Res.mk hr.symm
  · exact h.fail.elim

def T_fare_Good : TT := [(3, ⟨.int .i64, 1, 8, [.int .i64 0], some .int⟩),
  (4, ⟨.bool, 1, 1, [.bool false], some .bool⟩),
  (24, ⟨.slice 3, 1, 24, [.slice none 0 0], none⟩),
  (40, ⟨.int .i64, 1, 8, [.int .i64 0], none⟩),
  (54, ⟨.slice 73, 1, 24, [.slice none 0 0], none⟩),
  (73, ⟨.strct [(0, 3), (1, 3), (2, 3), (3, 3), (4, 3), (5, 40), (6, 3), (7, 3), (8, 3), (9, 3)], 10, 80, [.int .i64 0, .int .i64 0, .int .i64 0, .int .i64 0, .int .i64 0, .int .i64 0, .int .i64 0, .int .i64 0, .int .i64 0, .int .i64 0], some .journey⟩)]
theorem tOk_fare_Good : TOk Try.prog T_fare_Good := tOk_of (by kernel_rfl)
def sp_fare_Good : Spec := fun args hp => match args, hp with
  | [.slF 0], [(0, .row o_js .journey js)] => .vc (js.length ≤ 1099511627776) (bv (good js)) []
  | _, _ => .fail "fare_Good"
abbrev k_fare_Good : List (Option RK) := [some .journey]
def a_fare_Good : List SV → List (Nat × VB) → Anns := fun args hp => match args, hp with
  | [.slF 0], [(0, .row o_js .journey js)] => [(2, fun S => .inv [] [] fun ids vs => { cars := [.i 7 .i64], inv := fun ((i, _) : Int × Unit) => IGood js i, mu := fun ((i, _) : Int × Unit) => js.length - i.toNat })]
  | _, _ => []
set_option maxHeartbeats 20000000 in
theorem ok_fare_Good : GOk Try.prog 54 (lift k_fare_Good sp_fare_Good) := by
  refine pf_ok (T := T_fare_Good) (Γ := (63, lift k_fare_in sp_fare_in) :: []) tOk_fare_Good (gOks_cons ok_fare_in (gOks_nil _)) mixed Try.func54 (c := body Try.f54) (by kernel_rfl) (by kernel_rfl) k_fare_Good sp_fare_Good (by kernel_rfl) (by kernel_rfl) a_fare_Good ?_
  intro args hp s u hfit h
  unfold sp_fare_Good at h
  split at h
  · rename_i o_js js
    obtain ⟨hvc, rfl, rfl⟩ := h.vc
    clear h hfit
    change List Journey at js
    conv => whnf
    repeat' (first
      | (refine And.intro ?_ ?_ <;> try conv => whnf)
      | (intro hh; first | (cases hh; done) | conv => whnf))
    all_goals try first | rfl | kernel_rfl
    all_goals try simp only [decide_eq_true_eq, decide_eq_false_iff_not] at *
    all_goals try simp only [Key_eta, Share_eta, Journey_eta, Batch_eta, FieldT_eta, OpB_eta, Product_eta, Key_beq, Share_beq, Journey_beq, FieldT_beq, Product_beq, toNat0, toNat1, toNat2, toNat3, toNat4, toNat5, toNat6, toNat7, toNat8, toNat9, toNat10, toNat11, toNat12, toNat13, toNat14, toNat15, toNat16, toNat17, toNat18, toNat19, iA, iOf, atS, zK, true_and, and_true, decide_eq_true_eq, decide_eq_false_iff_not, beq_iff_eq, bne_iff_ne, beq_eq_false_iff_ne, bne_eq_false_iff_eq, Bool.not_eq_true', Bool.not_eq_false', Bool.not_eq_true, Bool.not_eq_false, Nat.succ_eq_add_one, Int.not_lt, Int.not_le, gt_iff_lt, ge_iff_le, show bytesS T_fare_Good 24 = 8 from rfl, show bytesS T_fare_Good 54 = 80 from rfl] at *
    all_goals try (
      obtain ⟨j, hj, rfl, hr⟩ := ‹IGood _ _›
      (try simp only [Int.toNat_natCast] at *))
    all_goals try (refine Vc.mk ?_; (try simp only [List.length_cons, List.length_nil]); omega)
    · exact ⟨⟨0, Nat.zero_le _, rfl, by simp [good]⟩⟩
    iterate 7 (
      refine Res.mk (not_good (j := j) (by omega) ?_).symm
      unfold goodJ
      simp only [*, Bool.false_and, Bool.and_false])
    · have hlt : j < js.length := by omega
      refine ⟨⟨j + 1, by omega, by rw [wrap64] <;> omega, ?_⟩, by rw [wrap64] <;> omega⟩
      rw [take_getD (d := (⟨0, 0, 0, 0, 0, 0, 0, 0, 0, 0⟩ : Journey)) hlt, good_snoc, hr]
      unfold goodJ
      simp only [*, Bool.and_self]
    · obtain rfl : j = js.length := by omega
      rw [List.take_length] at hr
      exact Res.mk hr.symm
  · exact h.fail.elim

def T_fare_widths : TT := [(3, ⟨.int .i64, 1, 8, [.int .i64 0], some .int⟩),
  (24, ⟨.slice 3, 1, 24, [.slice none 0 0], none⟩)]
theorem tOk_fare_widths : TOk Try.prog T_fare_widths := tOk_of (by kernel_rfl)
def sp_fare_widths : Spec := fun args hp => match args, hp with
  | [], [] => .ok (.slF 2000) [(2000, some (.row true .int widthsL))]
  | _, _ => .fail "fare_widths"
abbrev k_fare_widths : List (Option RK) := []
def a_fare_widths : List SV → List (Nat × VB) → Anns := fun _ _ => []
set_option maxHeartbeats 20000000 in
theorem ok_fare_widths : GOk Try.prog 80 (lift k_fare_widths sp_fare_widths) := by
  refine pf_ok (T := T_fare_widths) (Γ := []) tOk_fare_widths (gOks_nil _) mixed Try.func80 (c := body Try.f80) (by kernel_rfl) (by kernel_rfl) k_fare_widths sp_fare_widths (by kernel_rfl) (by kernel_rfl) a_fare_widths ?_
  intro args hp s u hfit h
  unfold sp_fare_widths at h
  split at h
  · skip
    obtain ⟨rfl, rfl⟩ := h.ok
    clear h hfit
    conv => whnf
    repeat' (first
      | (refine And.intro ?_ ?_ <;> try conv => whnf)
      | (intro hh; first | (cases hh; done) | conv => whnf))
    all_goals try first | rfl | kernel_rfl
    all_goals try simp only [decide_eq_true_eq, decide_eq_false_iff_not] at *
    all_goals try simp only [Key_eta, Share_eta, Journey_eta, Batch_eta, FieldT_eta, OpB_eta, Product_eta, Key_beq, Share_beq, Journey_beq, FieldT_beq, Product_beq, toNat0, toNat1, toNat2, toNat3, toNat4, toNat5, toNat6, toNat7, toNat8, toNat9, toNat10, toNat11, toNat12, toNat13, toNat14, toNat15, toNat16, toNat17, toNat18, toNat19, iA, iOf, atS, zK, true_and, and_true, decide_eq_true_eq, decide_eq_false_iff_not, beq_iff_eq, bne_iff_ne, beq_eq_false_iff_ne, bne_eq_false_iff_eq, Bool.not_eq_true', Bool.not_eq_false', Bool.not_eq_true, Bool.not_eq_false, Nat.succ_eq_add_one, Int.not_lt, Int.not_le, gt_iff_lt, ge_iff_le, show bytesS T_fare_widths 24 = 8 from rfl] at *
    exact Res.mk rfl
  · exact h.fail.elim

def T_fare_numbers : TT := [(3, ⟨.int .i64, 1, 8, [.int .i64 0], some .int⟩),
  (24, ⟨.slice 3, 1, 24, [.slice none 0 0], none⟩),
  (40, ⟨.int .i64, 1, 8, [.int .i64 0], none⟩),
  (73, ⟨.strct [(0, 3), (1, 3), (2, 3), (3, 3), (4, 3), (5, 40), (6, 3), (7, 3), (8, 3), (9, 3)], 10, 80, [.int .i64 0, .int .i64 0, .int .i64 0, .int .i64 0, .int .i64 0, .int .i64 0, .int .i64 0, .int .i64 0, .int .i64 0, .int .i64 0], some .journey⟩)]
theorem tOk_fare_numbers : TOk Try.prog T_fare_numbers := tOk_of (by kernel_rfl)
def sp_fare_numbers : Spec := fun args hp => match args, hp with
  | [.agg j_cs], [] => (match decS .journey j_cs with
    | some j => .ok (.slF 2000) [(2000, some (.row true .int (numbersJ j)))]
    | none => .fail "struct")
  | _, _ => .fail "fare_numbers"
abbrev k_fare_numbers : List (Option RK) := [none]
def a_fare_numbers : List SV → List (Nat × VB) → Anns := fun _ _ => []
set_option maxHeartbeats 20000000 in
theorem ok_fare_numbers : GOk Try.prog 79 (lift k_fare_numbers sp_fare_numbers) := by
  refine pf_ok (T := T_fare_numbers) (Γ := []) tOk_fare_numbers (gOks_nil _) mixed Try.func79 (c := body Try.f79) (by kernel_rfl) (by kernel_rfl) k_fare_numbers sp_fare_numbers (by kernel_rfl) (by kernel_rfl) a_fare_numbers ?_
  intro args hp s u hfit h
  unfold sp_fare_numbers at h
  split at h
  · rename_i j_cs
    split at h
    case h_2 => exact h.fail.elim
    rename_i j h_j
    obtain rfl := decS_ok (k := .journey) rfl h_j
    clear h_j
    change Journey at j
    obtain ⟨rfl, rfl⟩ := h.ok
    clear h hfit
    conv => whnf
    repeat' (first
      | (refine And.intro ?_ ?_ <;> try conv => whnf)
      | (intro hh; first | (cases hh; done) | conv => whnf))
    all_goals try first | rfl | kernel_rfl
    all_goals try simp only [decide_eq_true_eq, decide_eq_false_iff_not] at *
    all_goals try simp only [Key_eta, Share_eta, Journey_eta, Batch_eta, FieldT_eta, OpB_eta, Product_eta, Key_beq, Share_beq, Journey_beq, FieldT_beq, Product_beq, toNat0, toNat1, toNat2, toNat3, toNat4, toNat5, toNat6, toNat7, toNat8, toNat9, toNat10, toNat11, toNat12, toNat13, toNat14, toNat15, toNat16, toNat17, toNat18, toNat19, iA, iOf, atS, zK, true_and, and_true, decide_eq_true_eq, decide_eq_false_iff_not, beq_iff_eq, bne_iff_ne, beq_eq_false_iff_ne, bne_eq_false_iff_eq, Bool.not_eq_true', Bool.not_eq_false', Bool.not_eq_true, Bool.not_eq_false, Nat.succ_eq_add_one, Int.not_lt, Int.not_le, gt_iff_lt, ge_iff_le, show bytesS T_fare_numbers 24 = 8 from rfl] at *
    exact Res.mk rfl
  · exact h.fail.elim

def T_fare_Put : TT := [(3, ⟨.int .i64, 1, 8, [.int .i64 0], some .int⟩),
  (4, ⟨.bool, 1, 1, [.bool false], some .bool⟩),
  (5, ⟨.int .u8, 1, 1, [.int .u8 0], some .u8⟩),
  (24, ⟨.slice 3, 1, 24, [.slice none 0 0], none⟩),
  (27, ⟨.int .i64, 1, 8, [.int .i64 0], none⟩),
  (40, ⟨.int .i64, 1, 8, [.int .i64 0], none⟩),
  (54, ⟨.slice 73, 1, 24, [.slice none 0 0], none⟩),
  (57, ⟨.slice 5, 1, 24, [.slice none 0 0], none⟩),
  (73, ⟨.strct [(0, 3), (1, 3), (2, 3), (3, 3), (4, 3), (5, 40), (6, 3), (7, 3), (8, 3), (9, 3)], 10, 80, [.int .i64 0, .int .i64 0, .int .i64 0, .int .i64 0, .int .i64 0, .int .i64 0, .int .i64 0, .int .i64 0, .int .i64 0, .int .i64 0], some .journey⟩),
  (109, ⟨.strct [(0, 57), (1, 3)], 2, 32, [.slice none 0 0, .int .i64 0], none⟩),
  (112, ⟨.strct [(0, 3), (1, 3)], 2, 16, [.int .i64 0, .int .i64 0], some .fieldT⟩),
  (136, ⟨.slice 112, 1, 24, [.slice none 0 0], none⟩)]
theorem tOk_fare_Put : TOk Try.prog T_fare_Put := tOk_of (by kernel_rfl)
def sp_fare_Put : Spec := fun args hp => match args, hp with
  | [.slF 0], [(0, .row o_js .journey js)] => .vc (js.length ≤ 4294967296) (.tup [.slF 2000, iv (putJE js)]) [(2000, some (.row true .u8 (putJ js)))]
  | _, _ => .fail "fare_Put"
abbrev k_fare_Put : List (Option RK) := [some .journey]
def a_fare_Put : List SV → List (Nat × VB) → Anns := fun args hp => match args, hp with
  | [.slF 0], [(0, .row o_js .journey js)] => [(5, fun S => .inv [pOf (S.get 4)] [] fun ids vs => { cars := [.i 14 .i64, .blk (atN ids 0) [.r true .u8, .i .i64]], inv := fun ((i, (xs, n, _), _) : Int × (List Int × Int × Unit) × Unit) => IPut js i xs n, mu := fun ((i, (xs, n, _), _) : Int × (List Int × Int × Unit) × Unit) => js.length - i.toNat }),
    (8, fun S => .inv [pOf (S.get 4)] [S.get 14] fun ids vs => { cars := [.i 21 .i64, .blk (atN ids 0) [.r true .u8, .i .i64]], inv := fun ((i, (xs, n, _), _) : Int × (List Int × Int × Unit) × Unit) => IPutI (form (js.take ((iA vs 0)).toNat)) (js.getD ((iA vs 0)).toNat zJ) i xs n, mu := fun ((i, (xs, n, _), _) : Int × (List Int × Int × Unit) × Unit) => 10 - i.toNat })]
  | _, _ => []
set_option maxHeartbeats 20000000 in
theorem ok_fare_Put : GOk Try.prog 52 (lift k_fare_Put sp_fare_Put) := by
  refine pf_ok (T := T_fare_Put) (Γ := (54, lift k_fare_Good sp_fare_Good) :: (79, lift k_fare_numbers sp_fare_numbers) :: (80, lift k_fare_widths sp_fare_widths) :: (65, lift k_bits_Writer_Put sp_bits_Writer_Put) :: (66, lift k_bits_Writer_Bytes sp_bits_Writer_Bytes) :: []) tOk_fare_Put (gOks_cons ok_fare_Good (gOks_cons ok_fare_numbers (gOks_cons ok_fare_widths (gOks_cons ok_bits_Writer_Put (gOks_cons ok_bits_Writer_Bytes (gOks_nil _)))))) mixed Try.func52 (c := body Try.f52) (by kernel_rfl) (by kernel_rfl) k_fare_Put sp_fare_Put (by kernel_rfl) (by kernel_rfl) a_fare_Put ?_
  intro args hp s u hfit h
  unfold sp_fare_Put at h
  split at h
  · rename_i o_js js
    obtain ⟨hvc, rfl, rfl⟩ := h.vc
    clear h hfit
    change List Journey at js
    conv => whnf
    repeat' (first
      | (refine And.intro ?_ ?_ <;> try conv => whnf)
      | (intro hh; first | (cases hh; done) | conv => whnf))
    all_goals try first | rfl | kernel_rfl
    all_goals try simp only [decide_eq_true_eq, decide_eq_false_iff_not] at *
    all_goals try simp only [Key_eta, Share_eta, Journey_eta, Batch_eta, FieldT_eta, OpB_eta, Product_eta, Key_beq, Share_beq, Journey_beq, FieldT_beq, Product_beq, toNat0, toNat1, toNat2, toNat3, toNat4, toNat5, toNat6, toNat7, toNat8, toNat9, toNat10, toNat11, toNat12, toNat13, toNat14, toNat15, toNat16, toNat17, toNat18, toNat19, iA, iOf, atS, zK, true_and, and_true, decide_eq_true_eq, decide_eq_false_iff_not, beq_iff_eq, bne_iff_ne, beq_eq_false_iff_ne, bne_eq_false_iff_eq, Bool.not_eq_true', Bool.not_eq_false', Bool.not_eq_true, Bool.not_eq_false, Nat.succ_eq_add_one, Int.not_lt, Int.not_le, gt_iff_lt, ge_iff_le, show bytesS T_fare_Put 24 = 8 from rfl, show bytesS T_fare_Put 54 = 80 from rfl, show bytesS T_fare_Put 57 = 1 from rfl, show bytesS T_fare_Put 136 = 16 from rfl] at *
    all_goals try (
      obtain ⟨j, hj, rfl, rfl, rfl⟩ := ‹IPut _ _ _ _›
      have hfl := form_length (js.take j)
      rw [List.length_take] at hfl)
    all_goals try (
      have hj' : j < js.length := by omega
      (try simp only [Int.toNat_natCast] at *)
      have hx := all_getD (d := (⟨0, 0, 0, 0, 0, 0, 0, 0, 0, 0⟩ : Journey)) (show js.all goodJ = true from ‹good js = true›) hj')
    all_goals try (
      obtain ⟨m, hm, rfl, rfl, rfl⟩ := ‹IPutI _ _ _ _ _›
      (try simp only [Int.toNat_natCast] at *)
      have hbl : (bytesF ((fieldsJ (js.getD j zJ)).take m)).length ≤ 40 := by
        have := bytesF_len ((fieldsJ (js.getD j zJ)).take m) (by rw [List.all_eq_true]; exact fun x hx' => List.all_eq_true.1 (fieldsJ_right hx) x (List.mem_of_mem_take hx'))
        rw [List.length_take] at this
        omega)
    all_goals try (
      have hm' : m < 10 := by have : (numbersJ (js.getD j ⟨0, 0, 0, 0, 0, 0, 0, 0, 0, 0⟩)).length = 10 := rfl; omega
      obtain ⟨f1, f2⟩ := fieldsJ_put hx hm' (form (js.take j) ++ bytesF ((fieldsJ (js.getD j zJ)).take m)))
    all_goals try (refine Vc.mk ?_; first | omega | (rw [show widthsL.length = 10 from rfl]; omega))
    · exact Res.mk (by simp [putJ, putJE, *])
    · exact ⟨⟨0, Nat.zero_le _, rfl, by simp [form], by simp⟩⟩
    · exact ⟨⟨0, Nat.zero_le _, rfl, by simp [bytesF], rfl⟩⟩
    · refine Vc.mk ⟨by first | trivial | rfl, ?_, ?_⟩
      · intro f hf
        rw [List.mem_singleton] at hf
        subst hf
        exact f2
      · simp only [List.length_append, List.length_cons, List.length_nil]; omega
    · rw [f1]
      refine ⟨⟨m + 1, by omega, by rw [wrap64] <;> omega, ?_, rfl⟩, by rw [wrap64] <;> omega⟩
      rw [take_getD (d := (⟨0, 0⟩ : FieldT)) (show m < (fieldsJ (js.getD j zJ)).length from hm'), bytesF_snoc, List.append_assoc]
      simp [bytesF]
      rfl
    · obtain rfl : m = 10 := by have : (numbersJ (js.getD j ⟨0, 0, 0, 0, 0, 0, 0, 0, 0, 0⟩)).length = 10 := rfl; omega
      refine ⟨⟨j + 1, by omega, by rw [wrap64] <;> omega, ?_, rfl⟩, by rw [wrap64] <;> omega⟩
      rw [take_getD (d := zJ) hj', form_snoc]
      rfl
    · obtain rfl : j = js.length := by omega
      rw [List.take_length]
      exact Res.mk (by simp [putJ, putJE, *])
  · exact h.fail.elim

def T_fare_Get : TT := [(3, ⟨.int .i64, 1, 8, [.int .i64 0], some .int⟩),
  (4, ⟨.bool, 1, 1, [.bool false], some .bool⟩),
  (5, ⟨.int .u8, 1, 1, [.int .u8 0], some .u8⟩),
  (24, ⟨.slice 3, 1, 24, [.slice none 0 0], none⟩),
  (27, ⟨.int .i64, 1, 8, [.int .i64 0], none⟩),
  (40, ⟨.int .i64, 1, 8, [.int .i64 0], none⟩),
  (54, ⟨.slice 73, 1, 24, [.slice none 0 0], none⟩),
  (57, ⟨.slice 5, 1, 24, [.slice none 0 0], none⟩),
  (73, ⟨.strct [(0, 3), (1, 3), (2, 3), (3, 3), (4, 3), (5, 40), (6, 3), (7, 3), (8, 3), (9, 3)], 10, 80, [.int .i64 0, .int .i64 0, .int .i64 0, .int .i64 0, .int .i64 0, .int .i64 0, .int .i64 0, .int .i64 0, .int .i64 0, .int .i64 0], some .journey⟩),
  (114, ⟨.ptr, 1, 8, [.pointer none], none⟩)]
theorem tOk_fare_Get : TOk Try.prog T_fare_Get := tOk_of (by kernel_rfl)
def sp_fare_Get : Spec := fun args hp => match args, hp with
  | [.slF 0], [(0, .row o_b .u8 b)] => .vc (isB b ∧ b.length ≤ 1099511627776) (.tup [.slF 2000, iv (getJE b)]) [(2000, some (.row true .journey (getJ b)))]
  | _, _ => .fail "fare_Get"
abbrev k_fare_Get : List (Option RK) := [some .u8]
def a_fare_Get : List SV → List (Nat × VB) → Anns := fun args hp => match args, hp with
  | [.slF 0], [(0, .row o_b .u8 b)] => [(5, fun S => .inv [pOf (S.get 5)] [cellOf S (pOf (S.get 5)) 0] fun ids vs => { cars := [.r 4 true .journey, .blk (atN ids 0) [.fix ((atS vs 0)), .i .i64, .i .i64]], inv := fun ((js, (_, at_, e, _), _) : List Journey × (Unit × Int × Int × Unit) × Unit) => IGet b js at_ e, mu := fun ((js, (_, at_, e, _), _) : List Journey × (Unit × Int × Int × Unit) × Unit) => (8 * b.length - at_).toNat })]
  | _, _ => []
set_option maxHeartbeats 20000000 in
theorem ok_fare_Get : GOk Try.prog 55 (lift k_fare_Get sp_fare_Get) := by
  refine pf_ok (T := T_fare_Get) (Γ := (67, lift k_bits_Read sp_bits_Read) :: (82, lift k_bits_Reader_Left sp_bits_Reader_Left) :: (68, lift k_bits_Reader_Take sp_bits_Reader_Take) :: (80, lift k_fare_widths sp_fare_widths) :: (54, lift k_fare_Good sp_fare_Good) :: []) tOk_fare_Get (gOks_cons ok_bits_Read (gOks_cons ok_bits_Reader_Left (gOks_cons ok_bits_Reader_Take (gOks_cons ok_fare_widths (gOks_cons ok_fare_Good (gOks_nil _)))))) mixed Try.func55 (c := body Try.f55) (by kernel_rfl) (by kernel_rfl) k_fare_Get sp_fare_Get (by kernel_rfl) (by kernel_rfl) a_fare_Get ?_
  intro args hp s u hfit h
  unfold sp_fare_Get at h
  split at h
  · rename_i o_b b
    obtain ⟨hvc, rfl, rfl⟩ := h.vc
    clear h hfit
    change List Int at b
    conv => whnf
    repeat' (first
      | (refine And.intro ?_ ?_ <;> try conv => whnf)
      | (intro hh; first | (cases hh; done) | conv => whnf))
    all_goals try first | rfl | kernel_rfl
    all_goals try simp only [decide_eq_true_eq, decide_eq_false_iff_not] at *
    all_goals try simp only [Key_eta, Share_eta, Journey_eta, Batch_eta, FieldT_eta, OpB_eta, Product_eta, Key_beq, Share_beq, Journey_beq, FieldT_beq, Product_beq, toNat0, toNat1, toNat2, toNat3, toNat4, toNat5, toNat6, toNat7, toNat8, toNat9, toNat10, toNat11, toNat12, toNat13, toNat14, toNat15, toNat16, toNat17, toNat18, toNat19, iA, iOf, atS, zK, true_and, and_true, decide_eq_true_eq, decide_eq_false_iff_not, beq_iff_eq, bne_iff_ne, beq_eq_false_iff_ne, bne_eq_false_iff_eq, Bool.not_eq_true', Bool.not_eq_false', Bool.not_eq_true, Bool.not_eq_false, Nat.succ_eq_add_one, Int.not_lt, Int.not_le, gt_iff_lt, ge_iff_le, show bytesS T_fare_Get 24 = 8 from rfl, show bytesS T_fare_Get 54 = 80 from rfl, show bytesS T_fare_Get 57 = 1 from rfl] at *
    all_goals obtain ⟨hB, hL⟩ := hvc
    all_goals generalize hbb : b = bb at *
    
    all_goals try rw [Int.tmod_eq_emod_of_nonneg (by omega)] at *
    all_goals try (
      obtain ⟨j, hj, rfl, rfl, rfl⟩ := ‹IGet _ _ _ _›)
    all_goals try (
      have hj' : j < bb.length / 19 := by omega
      obtain ⟨e1, e2, e3⟩ := take_w hj'
      have e4 : (takeN bb ((152 * j : Nat) : Int) 0 widthsL).length = 10 := by rw [e2, rd_length]; rfl
      have e5 := parseJs_length j bb)
    all_goals try (refine Vc.mk ?_; first | omega | (simp only [List.length_cons, List.length_nil]; omega))
    · have h : bb.length % 19 ≠ 0 := by omega
      exact Res.mk (by simp [getJ, getJE, h])
    · exact ⟨⟨0, Nat.zero_le _, rfl, by simp, rfl⟩⟩
    · exact Vc.mk ⟨by omega, by omega, by omega, widths8, hB, hL, by decide⟩
    · rw [e1, e2, e3]
      refine ⟨⟨j + 1, by omega, ?_, rfl, rfl⟩, by omega⟩
      rw [parseJs_snoc]
      rfl
    · exact Vc.mk (by rw [parseJs_length]; omega)
    · have h : bb.length % 19 = 0 := by omega
      obtain rfl : j = bb.length / 19 := by omega
      exact Res.mk (by simp [getJ, getJE, h, *])
    · have h : bb.length % 19 = 0 := by omega
      obtain rfl : j = bb.length / 19 := by omega
      exact Res.mk (by simp [getJ, getJE, h, *])
  · exact h.fail.elim

def T_fare_GetP : TT := [(3, ⟨.int .i64, 1, 8, [.int .i64 0], some .int⟩),
  (4, ⟨.bool, 1, 1, [.bool false], some .bool⟩),
  (5, ⟨.int .u8, 1, 1, [.int .u8 0], some .u8⟩),
  (24, ⟨.slice 3, 1, 24, [.slice none 0 0], none⟩),
  (27, ⟨.int .i64, 1, 8, [.int .i64 0], none⟩),
  (40, ⟨.int .i64, 1, 8, [.int .i64 0], none⟩),
  (54, ⟨.slice 73, 1, 24, [.slice none 0 0], none⟩),
  (57, ⟨.slice 5, 1, 24, [.slice none 0 0], none⟩),
  (73, ⟨.strct [(0, 3), (1, 3), (2, 3), (3, 3), (4, 3), (5, 40), (6, 3), (7, 3), (8, 3), (9, 3)], 10, 80, [.int .i64 0, .int .i64 0, .int .i64 0, .int .i64 0, .int .i64 0, .int .i64 0, .int .i64 0, .int .i64 0, .int .i64 0, .int .i64 0], some .journey⟩),
  (114, ⟨.ptr, 1, 8, [.pointer none], none⟩)]
theorem tOk_fare_GetP : TOk Try.prog T_fare_GetP := tOk_of (by kernel_rfl)
def sp_fare_GetP : Spec := fun args hp => match args, hp with
  | [.slP 0 b_i b_n], [(0, .row o_b .u8 b)] => .vc (isB ((b.drop b_i).take b_n) ∧ ((b.drop b_i).take b_n).length ≤ 1099511627776) (.tup [.slF 2000, iv (getJE ((b.drop b_i).take b_n))]) [(2000, some (.row true .journey (getJ ((b.drop b_i).take b_n))))]
  | _, _ => .fail "fare_GetP"
abbrev k_fare_GetP : List (Option RK) := [some .u8]
def a_fare_GetP : List SV → List (Nat × VB) → Anns := fun args hp => match args, hp with
  | [.slP 0 b_i b_n], [(0, .row o_b .u8 b)] => [(5, fun S => .inv [pOf (S.get 5)] [cellOf S (pOf (S.get 5)) 0] fun ids vs => { cars := [.r 4 true .journey, .blk (atN ids 0) [.fix ((atS vs 0)), .i .i64, .i .i64]], inv := fun ((js, (_, at_, e, _), _) : List Journey × (Unit × Int × Int × Unit) × Unit) => IGet ((b.drop b_i).take b_n) js at_ e, mu := fun ((js, (_, at_, e, _), _) : List Journey × (Unit × Int × Int × Unit) × Unit) => (8 * ((b.drop b_i).take b_n).length - at_).toNat })]
  | _, _ => []
set_option maxHeartbeats 20000000 in
theorem ok_fare_GetP : GOk Try.prog 55 (lift k_fare_GetP sp_fare_GetP) := by
  refine pf_ok (T := T_fare_GetP) (Γ := (67, lift k_bits_ReadP sp_bits_ReadP) :: (82, lift k_bits_Reader_Left sp_bits_Reader_Left) :: (68, lift k_bits_Reader_Take sp_bits_Reader_Take) :: (80, lift k_fare_widths sp_fare_widths) :: (54, lift k_fare_Good sp_fare_Good) :: []) tOk_fare_GetP (gOks_cons ok_bits_ReadP (gOks_cons ok_bits_Reader_Left (gOks_cons ok_bits_Reader_Take (gOks_cons ok_fare_widths (gOks_cons ok_fare_Good (gOks_nil _)))))) mixed Try.func55 (c := body Try.f55) (by kernel_rfl) (by kernel_rfl) k_fare_GetP sp_fare_GetP (by kernel_rfl) (by kernel_rfl) a_fare_GetP ?_
  intro args hp s u hfit h
  unfold sp_fare_GetP at h
  split at h
  · rename_i b_i b_n o_b b
    obtain ⟨hvc, rfl, rfl⟩ := h.vc
    clear h
    change List Int at b
    conv => whnf
    repeat' (first
      | (refine And.intro ?_ ?_ <;> try conv => whnf)
      | (intro hh; first | (cases hh; done) | conv => whnf))
    all_goals try first | rfl | kernel_rfl
    all_goals try simp only [decide_eq_true_eq, decide_eq_false_iff_not] at *
    all_goals try simp only [Key_eta, Share_eta, Journey_eta, Batch_eta, FieldT_eta, OpB_eta, Product_eta, Key_beq, Share_beq, Journey_beq, FieldT_beq, Product_beq, toNat0, toNat1, toNat2, toNat3, toNat4, toNat5, toNat6, toNat7, toNat8, toNat9, toNat10, toNat11, toNat12, toNat13, toNat14, toNat15, toNat16, toNat17, toNat18, toNat19, iA, iOf, atS, zK, true_and, and_true, decide_eq_true_eq, decide_eq_false_iff_not, beq_iff_eq, bne_iff_ne, beq_eq_false_iff_ne, bne_eq_false_iff_eq, Bool.not_eq_true', Bool.not_eq_false', Bool.not_eq_true, Bool.not_eq_false, Nat.succ_eq_add_one, Int.not_lt, Int.not_le, gt_iff_lt, ge_iff_le, show bytesS T_fare_GetP 24 = 8 from rfl, show bytesS T_fare_GetP 54 = 80 from rfl, show bytesS T_fare_GetP 57 = 1 from rfl] at *
    all_goals obtain ⟨hB, hL⟩ := hvc
    all_goals (
      have hf : b_n = 0 ∨ b_i + b_n ≤ b.length := hfit.1
      have hfn : ((b.drop b_i).take b_n).length = b_n := by
        rw [List.length_take, List.length_drop]
        omega
      have hge : ∀ i, i < b_n → ((b.drop b_i).take b_n).getD i 0 = b.getD (b_i + i) 0 := fun i hi => getD_take_drop hi)
    all_goals generalize hbb : ((b.drop b_i).take b_n) = bb at *
    all_goals subst hfn
    
    all_goals try rw [Int.tmod_eq_emod_of_nonneg (by omega)] at *
    all_goals try (
      obtain ⟨j, hj, rfl, rfl, rfl⟩ := ‹IGet _ _ _ _›)
    all_goals try (
      have hj' : j < bb.length / 19 := by omega
      obtain ⟨e1, e2, e3⟩ := take_w hj'
      have e4 : (takeN bb ((152 * j : Nat) : Int) 0 widthsL).length = 10 := by rw [e2, rd_length]; rfl
      have e5 := parseJs_length j bb)
    all_goals try (refine Vc.mk ?_; first | omega | (simp only [List.length_cons, List.length_nil]; omega))
    · have h : bb.length % 19 ≠ 0 := by omega
      exact Res.mk (by simp [getJ, getJE, h])
    · exact ⟨⟨0, Nat.zero_le _, rfl, by simp, rfl⟩⟩
    · exact Vc.mk ⟨by omega, by omega, by omega, widths8, hB, hL, by decide⟩
    · rw [e1, e2, e3]
      refine ⟨⟨j + 1, by omega, ?_, rfl, rfl⟩, by omega⟩
      rw [parseJs_snoc]
      rfl
    · exact Vc.mk (by rw [parseJs_length]; omega)
    · have h : bb.length % 19 = 0 := by omega
      obtain rfl : j = bb.length / 19 := by omega
      exact Res.mk (by simp [getJ, getJE, h, *])
    · have h : bb.length % 19 = 0 := by omega
      obtain rfl : j = bb.length / 19 := by omega
      exact Res.mk (by simp [getJ, getJE, h, *])
  · exact h.fail.elim

end Go.Proofs.Ytncdakkigkmfjaa.Sx
