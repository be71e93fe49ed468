import Derived.Test.YtgajbggdamlhlaaProg
import Derived.Test.YtgajbggdamlhlaaSxU
import Derived.IntWalk
import Derived.Test.YtgajbggdamlhlaaF2r
/-! fare -/
namespace Go.Proofs.Ytgajbggdamlhlaa.Sx
open Go
set_option linter.unusedVariables false
set_option linter.unusedSimpArgs false
set_option maxRecDepth 100000

def T_fare_in : TT := [(3, ⟨.int .i64, 1, 8, [.int .i64 0], some .int⟩),
  (4, ⟨.bool, 1, 1, [.bool false], some .bool⟩),
  (22, ⟨.slice 3, 1, 24, [.slice none 0 0], none⟩)]
theorem tOk_fare_in : TOk Try.prog T_fare_in := tOk_of (by kernel_rfl)
def sp_fare_in : Spec := fun args hp => match args, hp with
  | [.val (.int .i64 lo), .val (.int .i64 hi), .slF 0], [(0, .row o_ns .int ns)] => .vc (ns.length ≤ 1099511627776) (bv (inR lo hi ns)) []
  | _, _ => .fail "fare_in"
abbrev k_fare_in : List (Option RK) := [none, none, some .int]
def a_fare_in : List SV → List (Nat × VB) → Anns := fun args hp => match args, hp with
  | [.val (.int .i64 lo), .val (.int .i64 hi), .slF 0], [(0, .row o_ns .int ns)] => [(2, fun S => .inv [] [] [] fun ids vs rs => { cars := [.i 11 .i64], inv := fun ((i, _) : Int × Unit) => IIn lo hi ns i, mu := fun ((i, _) : Int × Unit) => ns.length - i.toNat })]
  | _, _ => []
set_option maxHeartbeats 20000000 in
theorem ok_fare_in : GOk Try.prog 105 (lift k_fare_in sp_fare_in) := by
  refine pf_ok (T := T_fare_in) (Γ := []) tOk_fare_in (gOks_nil _) mixed Try.func105 (c := body Try.f105) (by kernel_rfl) (by kernel_rfl) k_fare_in sp_fare_in (by kernel_rfl) (by kernel_rfl) a_fare_in ?_
  intro args hp s u hfit h
  unfold sp_fare_in at h
  split at h
  · rename_i lo hi o_ns ns
    obtain ⟨hvc, rfl, rfl⟩ := h.vc
    clear h hfit
    change List Int at ns
    conv => whnf
    repeat' (first
      | (refine And.intro ?_ ?_ <;> try conv => whnf)
      | (intro hh; first | (cases hh; done) | conv => whnf))
    all_goals try first | rfl | kernel_rfl
    all_goals try simp only [decide_eq_true_eq, decide_eq_false_iff_not] at *
    all_goals try simp only [Key_eta, Share_eta, Journey_eta, Batch_eta, FieldT_eta, OpB_eta, Product_eta, Key_beq, Share_beq, Journey_beq, FieldT_beq, Product_beq, toNat0, toNat1, toNat2, toNat3, toNat4, toNat5, toNat6, toNat7, toNat8, toNat9, toNat10, toNat11, toNat12, toNat13, toNat14, toNat15, toNat16, toNat17, toNat18, toNat19, iA, iOf, atS, rwA, castK, zK, true_and, and_true, decide_eq_true_eq, decide_eq_false_iff_not, beq_iff_eq, bne_iff_ne, beq_eq_false_iff_ne, bne_eq_false_iff_eq, Bool.not_eq_true', Bool.not_eq_false', Bool.not_eq_true, Bool.not_eq_false, Nat.succ_eq_add_one, Int.not_lt, Int.not_le, gt_iff_lt, ge_iff_le, show bytesS T_fare_in 22 = 8 from rfl] at *
    all_goals try (
      obtain ⟨j, hj, rfl, hr⟩ := ‹IIn _ _ _ _›
      (try simp only [Int.toNat_natCast] at *))
    all_goals try (refine Vc.mk ?_; omega)
    · exact ⟨⟨0, Nat.zero_le _, rfl, by simp [inR]⟩⟩
    · exact Res.mk (not_inR (j := j) (by omega) (by omega)).symm
    · exact Res.mk (not_inR (j := j) (by omega) (by omega)).symm
    · have hlt : j < ns.length := by omega
      refine ⟨⟨j + 1, by omega, by rw [wrap64] <;> omega, ?_⟩, by rw [wrap64] <;> omega⟩
      rw [take_succ hlt, inR_snoc, hr]
      simp only [Bool.true_and, Bool.and_eq_true, decide_eq_true_eq]
      omega
    · obtain rfl : j = ns.length := by omega
      rw [List.take_length] at hr
      exact Res.mk hr.symm
  · exact h.fail.elim

def T_fare_Good : TT := [(3, ⟨.int .i64, 1, 8, [.int .i64 0], some .int⟩),
  (4, ⟨.bool, 1, 1, [.bool false], some .bool⟩),
  (22, ⟨.slice 3, 1, 24, [.slice none 0 0], none⟩),
  (39, ⟨.int .i64, 1, 8, [.int .i64 0], none⟩),
  (65, ⟨.slice 74, 1, 24, [.slice none 0 0], none⟩),
  (74, ⟨.strct [(0, 3), (1, 3), (2, 3), (3, 3), (4, 3), (5, 39), (6, 3), (7, 3), (8, 3), (9, 3)], 10, 80, [.int .i64 0, .int .i64 0, .int .i64 0, .int .i64 0, .int .i64 0, .int .i64 0, .int .i64 0, .int .i64 0, .int .i64 0, .int .i64 0], some .journey⟩)]
theorem tOk_fare_Good : TOk Try.prog T_fare_Good := tOk_of (by kernel_rfl)
def sp_fare_Good : Spec := fun args hp => match args, hp with
  | [.slF 0], [(0, .row o_js .journey js)] => .vc (js.length ≤ 1099511627776) (bv (good js)) []
  | _, _ => .fail "fare_Good"
abbrev k_fare_Good : List (Option RK) := [some .journey]
def a_fare_Good : List SV → List (Nat × VB) → Anns := fun args hp => match args, hp with
  | [.slF 0], [(0, .row o_js .journey js)] => [(2, fun S => .inv [] [] [] fun ids vs rs => { cars := [.i 7 .i64], inv := fun ((i, _) : Int × Unit) => IGood js i, mu := fun ((i, _) : Int × Unit) => js.length - i.toNat })]
  | _, _ => []
set_option maxHeartbeats 20000000 in
theorem ok_fare_Good : GOk Try.prog 64 (lift k_fare_Good sp_fare_Good) := by
  refine pf_ok (T := T_fare_Good) (Γ := (105, lift k_fare_in sp_fare_in) :: []) tOk_fare_Good (gOks_cons ok_fare_in (gOks_nil _)) mixed Try.func64 (c := body Try.f64) (by kernel_rfl) (by kernel_rfl) k_fare_Good sp_fare_Good (by kernel_rfl) (by kernel_rfl) a_fare_Good ?_
  intro args hp s u hfit h
  unfold sp_fare_Good at h
  split at h
  · rename_i o_js js
    obtain ⟨hvc, rfl, rfl⟩ := h.vc
    clear h hfit
    change List Journey at js
    conv => whnf
    repeat' (first
      | (refine And.intro ?_ ?_ <;> try conv => whnf)
      | (intro hh; first | (cases hh; done) | conv => whnf))
    all_goals try first | rfl | kernel_rfl
    all_goals try simp only [decide_eq_true_eq, decide_eq_false_iff_not] at *
    all_goals try simp only [Key_eta, Share_eta, Journey_eta, Batch_eta, FieldT_eta, OpB_eta, Product_eta, Key_beq, Share_beq, Journey_beq, FieldT_beq, Product_beq, toNat0, toNat1, toNat2, toNat3, toNat4, toNat5, toNat6, toNat7, toNat8, toNat9, toNat10, toNat11, toNat12, toNat13, toNat14, toNat15, toNat16, toNat17, toNat18, toNat19, iA, iOf, atS, rwA, castK, zK, true_and, and_true, decide_eq_true_eq, decide_eq_false_iff_not, beq_iff_eq, bne_iff_ne, beq_eq_false_iff_ne, bne_eq_false_iff_eq, Bool.not_eq_true', Bool.not_eq_false', Bool.not_eq_true, Bool.not_eq_false, Nat.succ_eq_add_one, Int.not_lt, Int.not_le, gt_iff_lt, ge_iff_le, show bytesS T_fare_Good 22 = 8 from rfl, show bytesS T_fare_Good 65 = 80 from rfl] at *
    all_goals try (
      obtain ⟨j, hj, rfl, hr⟩ := ‹IGood _ _›
      (try simp only [Int.toNat_natCast] at *))
    all_goals try (refine Vc.mk ?_; (try simp only [List.length_cons, List.length_nil]); omega)
    · exact ⟨⟨0, Nat.zero_le _, rfl, by simp [good]⟩⟩
    iterate 7 (
      refine Res.mk (not_good (j := j) (by omega) ?_).symm
      unfold goodJ
      simp only [*, Bool.false_and, Bool.and_false])
    · have hlt : j < js.length := by omega
      refine ⟨⟨j + 1, by omega, by rw [wrap64] <;> omega, ?_⟩, by rw [wrap64] <;> omega⟩
      rw [take_getD (d := (⟨0, 0, 0, 0, 0, 0, 0, 0, 0, 0⟩ : Journey)) hlt, good_snoc, hr]
      unfold goodJ
      simp only [*, Bool.and_self]
    · obtain rfl : j = js.length := by omega
      rw [List.take_length] at hr
      exact Res.mk hr.symm
  · exact h.fail.elim

def T_fare_widths : TT := [(3, ⟨.int .i64, 1, 8, [.int .i64 0], some .int⟩),
  (22, ⟨.slice 3, 1, 24, [.slice none 0 0], none⟩)]
theorem tOk_fare_widths : TOk Try.prog T_fare_widths := tOk_of (by kernel_rfl)
def sp_fare_widths : Spec := fun args hp => match args, hp with
  | [], [] => .ok (.slF 2000) [(2000, some (.row true .int widthsL))]
  | _, _ => .fail "fare_widths"
abbrev k_fare_widths : List (Option RK) := []
def a_fare_widths : List SV → List (Nat × VB) → Anns := fun _ _ => []
set_option maxHeartbeats 20000000 in
theorem ok_fare_widths : GOk Try.prog 110 (lift k_fare_widths sp_fare_widths) := by
  refine pf_ok (T := T_fare_widths) (Γ := []) tOk_fare_widths (gOks_nil _) mixed Try.func110 (c := body Try.f110) (by kernel_rfl) (by kernel_rfl) k_fare_widths sp_fare_widths (by kernel_rfl) (by kernel_rfl) a_fare_widths ?_
  intro args hp s u hfit h
  unfold sp_fare_widths at h
  split at h
  · skip
    obtain ⟨rfl, rfl⟩ := h.ok
    clear h hfit
    conv => whnf
    repeat' (first
      | (refine And.intro ?_ ?_ <;> try conv => whnf)
      | (intro hh; first | (cases hh; done) | conv => whnf))
    all_goals try first | rfl | kernel_rfl
    all_goals try simp only [decide_eq_true_eq, decide_eq_false_iff_not] at *
    all_goals try simp only [Key_eta, Share_eta, Journey_eta, Batch_eta, FieldT_eta, OpB_eta, Product_eta, Key_beq, Share_beq, Journey_beq, FieldT_beq, Product_beq, toNat0, toNat1, toNat2, toNat3, toNat4, toNat5, toNat6, toNat7, toNat8, toNat9, toNat10, toNat11, toNat12, toNat13, toNat14, toNat15, toNat16, toNat17, toNat18, toNat19, iA, iOf, atS, rwA, castK, zK, true_and, and_true, decide_eq_true_eq, decide_eq_false_iff_not, beq_iff_eq, bne_iff_ne, beq_eq_false_iff_ne, bne_eq_false_iff_eq, Bool.not_eq_true', Bool.not_eq_false', Bool.not_eq_true, Bool.not_eq_false, Nat.succ_eq_add_one, Int.not_lt, Int.not_le, gt_iff_lt, ge_iff_le, show bytesS T_fare_widths 22 = 8 from rfl] at *
    exact Res.mk rfl
  · exact h.fail.elim

def T_fare_numbers : TT := [(3, ⟨.int .i64, 1, 8, [.int .i64 0], some .int⟩),
  (22, ⟨.slice 3, 1, 24, [.slice none 0 0], none⟩),
  (39, ⟨.int .i64, 1, 8, [.int .i64 0], none⟩),
  (74, ⟨.strct [(0, 3), (1, 3), (2, 3), (3, 3), (4, 3), (5, 39), (6, 3), (7, 3), (8, 3), (9, 3)], 10, 80, [.int .i64 0, .int .i64 0, .int .i64 0, .int .i64 0, .int .i64 0, .int .i64 0, .int .i64 0, .int .i64 0, .int .i64 0, .int .i64 0], some .journey⟩)]
theorem tOk_fare_numbers : TOk Try.prog T_fare_numbers := tOk_of (by kernel_rfl)
def sp_fare_numbers : Spec := fun args hp => match args, hp with
  | [.agg j_cs], [] => (match decS .journey j_cs with
    | some j => .ok (.slF 2000) [(2000, some (.row true .int (numbersJ j)))]
    | none => .fail "struct")
  | _, _ => .fail "fare_numbers"
abbrev k_fare_numbers : List (Option RK) := [none]
def a_fare_numbers : List SV → List (Nat × VB) → Anns := fun _ _ => []
set_option maxHeartbeats 20000000 in
theorem ok_fare_numbers : GOk Try.prog 112 (lift k_fare_numbers sp_fare_numbers) := by
  refine pf_ok (T := T_fare_numbers) (Γ := []) tOk_fare_numbers (gOks_nil _) mixed Try.func112 (c := body Try.f112) (by kernel_rfl) (by kernel_rfl) k_fare_numbers sp_fare_numbers (by kernel_rfl) (by kernel_rfl) a_fare_numbers ?_
  intro args hp s u hfit h
  unfold sp_fare_numbers at h
  split at h
  · rename_i j_cs
    split at h
    case h_2 => exact h.fail.elim
    rename_i j h_j
    obtain rfl := decS_ok (k := .journey) rfl h_j
    clear h_j
    change Journey at j
    obtain ⟨rfl, rfl⟩ := h.ok
    clear h hfit
    conv => whnf
    repeat' (first
      | (refine And.intro ?_ ?_ <;> try conv => whnf)
      | (intro hh; first | (cases hh; done) | conv => whnf))
    all_goals try first | rfl | kernel_rfl
    all_goals try simp only [decide_eq_true_eq, decide_eq_false_iff_not] at *
    all_goals try simp only [Key_eta, Share_eta, Journey_eta, Batch_eta, FieldT_eta, OpB_eta, Product_eta, Key_beq, Share_beq, Journey_beq, FieldT_beq, Product_beq, toNat0, toNat1, toNat2, toNat3, toNat4, toNat5, toNat6, toNat7, toNat8, toNat9, toNat10, toNat11, toNat12, toNat13, toNat14, toNat15, toNat16, toNat17, toNat18, toNat19, iA, iOf, atS, rwA, castK, zK, true_and, and_true, decide_eq_true_eq, decide_eq_false_iff_not, beq_iff_eq, bne_iff_ne, beq_eq_false_iff_ne, bne_eq_false_iff_eq, Bool.not_eq_true', Bool.not_eq_false', Bool.not_eq_true, Bool.not_eq_false, Nat.succ_eq_add_one, Int.not_lt, Int.not_le, gt_iff_lt, ge_iff_le, show bytesS T_fare_numbers 22 = 8 from rfl] at *
    exact Res.mk rfl
  · exact h.fail.elim

def T_fare_Put : TT := [(3, ⟨.int .i64, 1, 8, [.int .i64 0], some .int⟩),
  (4, ⟨.bool, 1, 1, [.bool false], some .bool⟩),
  (5, ⟨.int .u8, 1, 1, [.int .u8 0], some .u8⟩),
  (22, ⟨.slice 3, 1, 24, [.slice none 0 0], none⟩),
  (24, ⟨.int .i64, 1, 8, [.int .i64 0], none⟩),
  (39, ⟨.int .i64, 1, 8, [.int .i64 0], none⟩),
  (43, ⟨.slice 5, 1, 24, [.slice none 0 0], none⟩),
  (65, ⟨.slice 74, 1, 24, [.slice none 0 0], none⟩),
  (74, ⟨.strct [(0, 3), (1, 3), (2, 3), (3, 3), (4, 3), (5, 39), (6, 3), (7, 3), (8, 3), (9, 3)], 10, 80, [.int .i64 0, .int .i64 0, .int .i64 0, .int .i64 0, .int .i64 0, .int .i64 0, .int .i64 0, .int .i64 0, .int .i64 0, .int .i64 0], some .journey⟩),
  (138, ⟨.strct [(0, 43), (1, 3)], 2, 32, [.slice none 0 0, .int .i64 0], none⟩),
  (141, ⟨.strct [(0, 3), (1, 3)], 2, 16, [.int .i64 0, .int .i64 0], some .fieldT⟩),
  (187, ⟨.slice 141, 1, 24, [.slice none 0 0], none⟩)]
theorem tOk_fare_Put : TOk Try.prog T_fare_Put := tOk_of (by kernel_rfl)
def sp_fare_Put : Spec := fun args hp => match args, hp with
  | [.slF 0], [(0, .row o_js .journey js)] => .vc (js.length ≤ 4294967296) (.tup [.slF 2000, iv (putJE js)]) [(2000, some (.row true .u8 (putJ js)))]
  | _, _ => .fail "fare_Put"
abbrev k_fare_Put : List (Option RK) := [some .journey]
def a_fare_Put : List SV → List (Nat × VB) → Anns := fun args hp => match args, hp with
  | [.slF 0], [(0, .row o_js .journey js)] => [(5, fun S => .inv [pOf (S.get 4)] [] [] fun ids vs rs => { cars := [.i 14 .i64, .blk (atN ids 0) [.r true .u8, .i .i64]], inv := fun ((i, (xs, n, _), _) : Int × (List Int × Int × Unit) × Unit) => IPut js i xs n, mu := fun ((i, (xs, n, _), _) : Int × (List Int × Int × Unit) × Unit) => js.length - i.toNat }),
    (8, fun S => .inv [pOf (S.get 4)] [S.get 14] [] fun ids vs rs => { cars := [.i 21 .i64, .blk (atN ids 0) [.r true .u8, .i .i64]], inv := fun ((i, (xs, n, _), _) : Int × (List Int × Int × Unit) × Unit) => IPutI (form (js.take ((iA vs 0)).toNat)) (js.getD ((iA vs 0)).toNat zJ) i xs n, mu := fun ((i, (xs, n, _), _) : Int × (List Int × Int × Unit) × Unit) => 10 - i.toNat })]
  | _, _ => []
set_option maxHeartbeats 20000000 in
theorem ok_fare_Put : GOk Try.prog 79 (lift k_fare_Put sp_fare_Put) := by
  refine pf_ok (T := T_fare_Put) (Γ := (64, lift k_fare_Good sp_fare_Good) :: (112, lift k_fare_numbers sp_fare_numbers) :: (110, lift k_fare_widths sp_fare_widths) :: (76, lift k_bits_Writer_Put sp_bits_Writer_Put) :: (77, lift k_bits_Writer_Bytes sp_bits_Writer_Bytes) :: []) tOk_fare_Put (gOks_cons ok_fare_Good (gOks_cons ok_fare_numbers (gOks_cons ok_fare_widths (gOks_cons ok_bits_Writer_Put (gOks_cons ok_bits_Writer_Bytes (gOks_nil _)))))) mixed Try.func79 (c := body Try.f79) (by kernel_rfl) (by kernel_rfl) k_fare_Put sp_fare_Put (by kernel_rfl) (by kernel_rfl) a_fare_Put ?_
  intro args hp s u hfit h
  unfold sp_fare_Put at h
  split at h
  · rename_i o_js js
    obtain ⟨hvc, rfl, rfl⟩ := h.vc
    clear h hfit
    change List Journey at js
    conv => whnf
    repeat' (first
      | (refine And.intro ?_ ?_ <;> try conv => whnf)
      | (intro hh; first | (cases hh; done) | conv => whnf))
    all_goals try first | rfl | kernel_rfl
    all_goals try simp only [decide_eq_true_eq, decide_eq_false_iff_not] at *
    all_goals try simp only [Key_eta, Share_eta, Journey_eta, Batch_eta, FieldT_eta, OpB_eta, Product_eta, Key_beq, Share_beq, Journey_beq, FieldT_beq, Product_beq, toNat0, toNat1, toNat2, toNat3, toNat4, toNat5, toNat6, toNat7, toNat8, toNat9, toNat10, toNat11, toNat12, toNat13, toNat14, toNat15, toNat16, toNat17, toNat18, toNat19, iA, iOf, atS, rwA, castK, zK, true_and, and_true, decide_eq_true_eq, decide_eq_false_iff_not, beq_iff_eq, bne_iff_ne, beq_eq_false_iff_ne, bne_eq_false_iff_eq, Bool.not_eq_true', Bool.not_eq_false', Bool.not_eq_true, Bool.not_eq_false, Nat.succ_eq_add_one, Int.not_lt, Int.not_le, gt_iff_lt, ge_iff_le, show bytesS T_fare_Put 22 = 8 from rfl, show bytesS T_fare_Put 43 = 1 from rfl, show bytesS T_fare_Put 65 = 80 from rfl, show bytesS T_fare_Put 187 = 16 from rfl] at *
    all_goals try (
      obtain ⟨j, hj, rfl, rfl, rfl⟩ := ‹IPut _ _ _ _›
      have hfl := form_length (js.take j)
      rw [List.length_take] at hfl)
    all_goals try (
      have hj' : j < js.length := by omega
      (try simp only [Int.toNat_natCast] at *)
      have hx := all_getD (d := (⟨0, 0, 0, 0, 0, 0, 0, 0, 0, 0⟩ : Journey)) (show js.all goodJ = true from ‹good js = true›) hj')
    all_goals try (
      obtain ⟨m, hm, rfl, rfl, rfl⟩ := ‹IPutI _ _ _ _ _›
      (try simp only [Int.toNat_natCast] at *)
      have hbl : (bytesF ((fieldsJ (js.getD j zJ)).take m)).length ≤ 40 := by
        have := bytesF_len ((fieldsJ (js.getD j zJ)).take m) (by rw [List.all_eq_true]; exact fun x hx' => List.all_eq_true.1 (fieldsJ_right hx) x (List.mem_of_mem_take hx'))
        rw [List.length_take] at this
        omega)
    all_goals try (
      have hm' : m < 10 := by have : (numbersJ (js.getD j ⟨0, 0, 0, 0, 0, 0, 0, 0, 0, 0⟩)).length = 10 := rfl; omega
      obtain ⟨f1, f2⟩ := fieldsJ_put hx hm' (form (js.take j) ++ bytesF ((fieldsJ (js.getD j zJ)).take m)))
    all_goals try (refine Vc.mk ?_; first | omega | (rw [show widthsL.length = 10 from rfl]; omega))
    · exact Res.mk (by simp [putJ, putJE, *])
    · exact ⟨⟨0, Nat.zero_le _, rfl, by simp [form], by simp⟩⟩
    · exact ⟨⟨0, Nat.zero_le _, rfl, by simp [bytesF], rfl⟩⟩
    · refine Vc.mk ⟨by first | trivial | rfl, ?_, ?_⟩
      · intro f hf
        rw [List.mem_singleton] at hf
        subst hf
        exact f2
      · simp only [List.length_append, List.length_cons, List.length_nil]; omega
    · rw [f1]
      refine ⟨⟨m + 1, by omega, by rw [wrap64] <;> omega, ?_, rfl⟩, by rw [wrap64] <;> omega⟩
      rw [take_getD (d := (⟨0, 0⟩ : FieldT)) (show m < (fieldsJ (js.getD j zJ)).length from hm'), bytesF_snoc, List.append_assoc]
      simp [bytesF]
      rfl
    · obtain rfl : m = 10 := by have : (numbersJ (js.getD j ⟨0, 0, 0, 0, 0, 0, 0, 0, 0, 0⟩)).length = 10 := rfl; omega
      refine ⟨⟨j + 1, by omega, by rw [wrap64] <;> omega, ?_, rfl⟩, by rw [wrap64] <;> omega⟩
      rw [take_getD (d := zJ) hj', form_snoc]
      rfl
    · obtain rfl : j = js.length := by omega
      rw [List.take_length]
      exact Res.mk (by simp [putJ, putJE, *])
  · exact h.fail.elim

def T_fare_Get : TT := [(3, ⟨.int .i64, 1, 8, [.int .i64 0], some .int⟩),
  (4, ⟨.bool, 1, 1, [.bool false], some .bool⟩),
  (5, ⟨.int .u8, 1, 1, [.int .u8 0], some .u8⟩),
  (22, ⟨.slice 3, 1, 24, [.slice none 0 0], none⟩),
  (24, ⟨.int .i64, 1, 8, [.int .i64 0], none⟩),
  (39, ⟨.int .i64, 1, 8, [.int .i64 0], none⟩),
  (43, ⟨.slice 5, 1, 24, [.slice none 0 0], none⟩),
  (65, ⟨.slice 74, 1, 24, [.slice none 0 0], none⟩),
  (74, ⟨.strct [(0, 3), (1, 3), (2, 3), (3, 3), (4, 3), (5, 39), (6, 3), (7, 3), (8, 3), (9, 3)], 10, 80, [.int .i64 0, .int .i64 0, .int .i64 0, .int .i64 0, .int .i64 0, .int .i64 0, .int .i64 0, .int .i64 0, .int .i64 0, .int .i64 0], some .journey⟩),
  (127, ⟨.ptr, 1, 8, [.pointer none], none⟩)]
theorem tOk_fare_Get : TOk Try.prog T_fare_Get := tOk_of (by kernel_rfl)
def sp_fare_Get : Spec := fun args hp => match args, hp with
  | [.slF 0], [(0, .row o_b .u8 b)] => .vc (isB b ∧ b.length ≤ 1099511627776) (.tup [.slF 2000, iv (getJE b)]) [(2000, some (.row true .journey (getJ b)))]
  | _, _ => .fail "fare_Get"
abbrev k_fare_Get : List (Option RK) := [some .u8]
def a_fare_Get : List SV → List (Nat × VB) → Anns := fun args hp => match args, hp with
  | [.slF 0], [(0, .row o_b .u8 b)] => [(5, fun S => .inv [pOf (S.get 5)] [cellOf S (pOf (S.get 5)) 0] [] fun ids vs rs => { cars := [.r 4 true .journey, .blk (atN ids 0) [.fix ((atS vs 0)), .i .i64, .i .i64]], inv := fun ((js, (_, at_, e, _), _) : List Journey × (Unit × Int × Int × Unit) × Unit) => IGet b js at_ e, mu := fun ((js, (_, at_, e, _), _) : List Journey × (Unit × Int × Int × Unit) × Unit) => (8 * b.length - at_).toNat })]
  | _, _ => []
set_option maxHeartbeats 20000000 in
theorem ok_fare_Get : GOk Try.prog 75 (lift k_fare_Get sp_fare_Get) := by
  refine pf_ok (T := T_fare_Get) (Γ := (71, lift k_bits_Read sp_bits_Read) :: (108, lift k_bits_Reader_Left sp_bits_Reader_Left) :: (72, lift k_bits_Reader_Take sp_bits_Reader_Take) :: (110, lift k_fare_widths sp_fare_widths) :: (64, lift k_fare_Good sp_fare_Good) :: []) tOk_fare_Get (gOks_cons ok_bits_Read (gOks_cons ok_bits_Reader_Left (gOks_cons ok_bits_Reader_Take (gOks_cons ok_fare_widths (gOks_cons ok_fare_Good (gOks_nil _)))))) mixed Try.func75 (c := body Try.f75) (by kernel_rfl) (by kernel_rfl) k_fare_Get sp_fare_Get (by kernel_rfl) (by kernel_rfl) a_fare_Get ?_
  intro args hp s u hfit h
  unfold sp_fare_Get at h
  split at h
  · rename_i o_b b
    obtain ⟨hvc, rfl, rfl⟩ := h.vc
    clear h hfit
    change List Int at b
    conv => whnf
    repeat' (first
      | (refine And.intro ?_ ?_ <;> try conv => whnf)
      | (intro hh; first | (cases hh; done) | conv => whnf))
    all_goals try first | rfl | kernel_rfl
    all_goals try simp only [decide_eq_true_eq, decide_eq_false_iff_not] at *
    all_goals try simp only [Key_eta, Share_eta, Journey_eta, Batch_eta, FieldT_eta, OpB_eta, Product_eta, Key_beq, Share_beq, Journey_beq, FieldT_beq, Product_beq, toNat0, toNat1, toNat2, toNat3, toNat4, toNat5, toNat6, toNat7, toNat8, toNat9, toNat10, toNat11, toNat12, toNat13, toNat14, toNat15, toNat16, toNat17, toNat18, toNat19, iA, iOf, atS, rwA, castK, zK, true_and, and_true, decide_eq_true_eq, decide_eq_false_iff_not, beq_iff_eq, bne_iff_ne, beq_eq_false_iff_ne, bne_eq_false_iff_eq, Bool.not_eq_true', Bool.not_eq_false', Bool.not_eq_true, Bool.not_eq_false, Nat.succ_eq_add_one, Int.not_lt, Int.not_le, gt_iff_lt, ge_iff_le, show bytesS T_fare_Get 22 = 8 from rfl, show bytesS T_fare_Get 43 = 1 from rfl, show bytesS T_fare_Get 65 = 80 from rfl] at *
    all_goals obtain ⟨hB, hL⟩ := hvc
    all_goals generalize hbb : b = bb at *
    
    all_goals try rw [Int.tmod_eq_emod_of_nonneg (by omega)] at *
    all_goals try (
      obtain ⟨j, hj, rfl, rfl, rfl⟩ := ‹IGet _ _ _ _›)
    all_goals try (
      have hj' : j < bb.length / 19 := by omega
      obtain ⟨e1, e2, e3⟩ := take_w hj'
      have e4 : (takeN bb ((152 * j : Nat) : Int) 0 widthsL).length = 10 := by rw [e2, rd_length]; rfl
      have e5 := parseJs_length j bb)
    all_goals try (refine Vc.mk ?_; first | omega | (simp only [List.length_cons, List.length_nil]; omega))
    · have h : bb.length % 19 ≠ 0 := by omega
      exact Res.mk (by simp [getJ, getJE, h])
    · exact ⟨⟨0, Nat.zero_le _, rfl, by simp, rfl⟩⟩
    · exact Vc.mk ⟨by omega, by omega, by omega, widths8, hB, hL, by decide⟩
    · rw [e1, e2, e3]
      refine ⟨⟨j + 1, by omega, ?_, rfl, rfl⟩, by omega⟩
      rw [parseJs_snoc]
      rfl
    · exact Vc.mk (by rw [parseJs_length]; omega)
    · have h : bb.length % 19 = 0 := by omega
      obtain rfl : j = bb.length / 19 := by omega
      exact Res.mk (by simp [getJ, getJE, h, *])
    · have h : bb.length % 19 = 0 := by omega
      obtain rfl : j = bb.length / 19 := by omega
      exact Res.mk (by simp [getJ, getJE, h, *])
  · exact h.fail.elim

def T_fare_GetP : TT := [(3, ⟨.int .i64, 1, 8, [.int .i64 0], some .int⟩),
  (4, ⟨.bool, 1, 1, [.bool false], some .bool⟩),
  (5, ⟨.int .u8, 1, 1, [.int .u8 0], some .u8⟩),
  (22, ⟨.slice 3, 1, 24, [.slice none 0 0], none⟩),
  (24, ⟨.int .i64, 1, 8, [.int .i64 0], none⟩),
  (39, ⟨.int .i64, 1, 8, [.int .i64 0], none⟩),
  (43, ⟨.slice 5, 1, 24, [.slice none 0 0], none⟩),
  (65, ⟨.slice 74, 1, 24, [.slice none 0 0], none⟩),
  (74, ⟨.strct [(0, 3), (1, 3), (2, 3), (3, 3), (4, 3), (5, 39), (6, 3), (7, 3), (8, 3), (9, 3)], 10, 80, [.int .i64 0, .int .i64 0, .int .i64 0, .int .i64 0, .int .i64 0, .int .i64 0, .int .i64 0, .int .i64 0, .int .i64 0, .int .i64 0], some .journey⟩),
  (127, ⟨.ptr, 1, 8, [.pointer none], none⟩)]
theorem tOk_fare_GetP : TOk Try.prog T_fare_GetP := tOk_of (by kernel_rfl)
def sp_fare_GetP : Spec := fun args hp => match args, hp with
  | [.slP 0 b_i b_n], [(0, .row o_b .u8 b)] => .vc (isB ((b.drop b_i).take b_n) ∧ ((b.drop b_i).take b_n).length ≤ 1099511627776) (.tup [.slF 2000, iv (getJE ((b.drop b_i).take b_n))]) [(2000, some (.row true .journey (getJ ((b.drop b_i).take b_n))))]
  | _, _ => .fail "fare_GetP"
abbrev k_fare_GetP : List (Option RK) := [some .u8]
def a_fare_GetP : List SV → List (Nat × VB) → Anns := fun args hp => match args, hp with
  | [.slP 0 b_i b_n], [(0, .row o_b .u8 b)] => [(5, fun S => .inv [pOf (S.get 5)] [cellOf S (pOf (S.get 5)) 0] [] fun ids vs rs => { cars := [.r 4 true .journey, .blk (atN ids 0) [.fix ((atS vs 0)), .i .i64, .i .i64]], inv := fun ((js, (_, at_, e, _), _) : List Journey × (Unit × Int × Int × Unit) × Unit) => IGet ((b.drop b_i).take b_n) js at_ e, mu := fun ((js, (_, at_, e, _), _) : List Journey × (Unit × Int × Int × Unit) × Unit) => (8 * ((b.drop b_i).take b_n).length - at_).toNat })]
  | _, _ => []
set_option maxHeartbeats 20000000 in
theorem ok_fare_GetP : GOk Try.prog 75 (lift k_fare_GetP sp_fare_GetP) := by
  refine pf_ok (T := T_fare_GetP) (Γ := (71, lift k_bits_ReadP sp_bits_ReadP) :: (108, lift k_bits_Reader_Left sp_bits_Reader_Left) :: (72, lift k_bits_Reader_Take sp_bits_Reader_Take) :: (110, lift k_fare_widths sp_fare_widths) :: (64, lift k_fare_Good sp_fare_Good) :: []) tOk_fare_GetP (gOks_cons ok_bits_ReadP (gOks_cons ok_bits_Reader_Left (gOks_cons ok_bits_Reader_Take (gOks_cons ok_fare_widths (gOks_cons ok_fare_Good (gOks_nil _)))))) mixed Try.func75 (c := body Try.f75) (by kernel_rfl) (by kernel_rfl) k_fare_GetP sp_fare_GetP (by kernel_rfl) (by kernel_rfl) a_fare_GetP ?_
  intro args hp s u hfit h
  unfold sp_fare_GetP at h
  split at h
  · rename_i b_i b_n o_b b
    obtain ⟨hvc, rfl, rfl⟩ := h.vc
    clear h
    change List Int at b
    conv => whnf
    repeat' (first
      | (refine And.intro ?_ ?_ <;> try conv => whnf)
      | (intro hh; first | (cases hh; done) | conv => whnf))
    all_goals try first | rfl | kernel_rfl
    all_goals try simp only [decide_eq_true_eq, decide_eq_false_iff_not] at *
    all_goals try simp only [Key_eta, Share_eta, Journey_eta, Batch_eta, FieldT_eta, OpB_eta, Product_eta, Key_beq, Share_beq, Journey_beq, FieldT_beq, Product_beq, toNat0, toNat1, toNat2, toNat3, toNat4, toNat5, toNat6, toNat7, toNat8, toNat9, toNat10, toNat11, toNat12, toNat13, toNat14, toNat15, toNat16, toNat17, toNat18, toNat19, iA, iOf, atS, rwA, castK, zK, true_and, and_true, decide_eq_true_eq, decide_eq_false_iff_not, beq_iff_eq, bne_iff_ne, beq_eq_false_iff_ne, bne_eq_false_iff_eq, Bool.not_eq_true', Bool.not_eq_false', Bool.not_eq_true, Bool.not_eq_false, Nat.succ_eq_add_one, Int.not_lt, Int.not_le, gt_iff_lt, ge_iff_le, show bytesS T_fare_GetP 22 = 8 from rfl, show bytesS T_fare_GetP 43 = 1 from rfl, show bytesS T_fare_GetP 65 = 80 from rfl] at *
    all_goals obtain ⟨hB, hL⟩ := hvc
    all_goals (
      have hf : b_n = 0 ∨ b_i + b_n ≤ b.length := hfit.1
      have hfn : ((b.drop b_i).take b_n).length = b_n := by
        rw [List.length_take, List.length_drop]
        omega
      have hge : ∀ i, i < b_n → ((b.drop b_i).take b_n).getD i 0 = b.getD (b_i + i) 0 := fun i hi => getD_take_drop hi)
    all_goals generalize hbb : ((b.drop b_i).take b_n) = bb at *
    all_goals subst hfn
    
    all_goals try rw [Int.tmod_eq_emod_of_nonneg (by omega)] at *
    all_goals try (
      obtain ⟨j, hj, rfl, rfl, rfl⟩ := ‹IGet _ _ _ _›)
    all_goals try (
      have hj' : j < bb.length / 19 := by omega
      obtain ⟨e1, e2, e3⟩ := take_w hj'
      have e4 : (takeN bb ((152 * j : Nat) : Int) 0 widthsL).length = 10 := by rw [e2, rd_length]; rfl
      have e5 := parseJs_length j bb)
    all_goals try (refine Vc.mk ?_; first | omega | (simp only [List.length_cons, List.length_nil]; omega))
    · have h : bb.length % 19 ≠ 0 := by omega
      exact Res.mk (by simp [getJ, getJE, h])
    · exact ⟨⟨0, Nat.zero_le _, rfl, by simp, rfl⟩⟩
    · exact Vc.mk ⟨by omega, by omega, by omega, widths8, hB, hL, by decide⟩
    · rw [e1, e2, e3]
      refine ⟨⟨j + 1, by omega, ?_, rfl, rfl⟩, by omega⟩
      rw [parseJs_snoc]
      rfl
    · exact Vc.mk (by rw [parseJs_length]; omega)
    · have h : bb.length % 19 = 0 := by omega
      obtain rfl : j = bb.length / 19 := by omega
      exact Res.mk (by simp [getJ, getJE, h, *])
    · have h : bb.length % 19 = 0 := by omega
      obtain rfl : j = bb.length / 19 := by omega
      exact Res.mk (by simp [getJ, getJE, h, *])
  · exact h.fail.elim

def T_money_Sum : TT := [(3, ⟨.int .i64, 1, 8, [.int .i64 0], some .int⟩),
  (4, ⟨.bool, 1, 1, [.bool false], some .bool⟩),
  (22, ⟨.slice 3, 1, 24, [.slice none 0 0], none⟩),
  (24, ⟨.int .i64, 1, 8, [.int .i64 0], none⟩)]
theorem tOk_money_Sum : TOk Try.prog T_money_Sum := tOk_of (by kernel_rfl)
def sp_money_Sum : Spec := fun args hp => match args, hp with
  | [.slF 0], [(0, .row o_ns .int ns)] => .vc (ns.length ≤ 1099511627776 ∧ ∀ n ∈ ns, -9223372036854775808 ≤ n ∧ n ≤ 9223372036854775807) (.tup [iv (sumV ns), iv (sumE ns)]) []
  | _, _ => .fail "money_Sum"
abbrev k_money_Sum : List (Option RK) := [some .int]
def a_money_Sum : List SV → List (Nat × VB) → Anns := fun args hp => match args, hp with
  | [.slF 0], [(0, .row o_ns .int ns)] => [(3, fun S => .inv [] [] [] fun ids vs rs => { cars := [.i 10 .i64, .i 4 .i64], inv := fun ((i, s, _) : Int × Int × Unit) => ISum ns i s, mu := fun ((i, s, _) : Int × Int × Unit) => ns.length - i.toNat })]
  | _, _ => []
set_option maxHeartbeats 20000000 in
theorem ok_money_Sum : GOk Try.prog 17 (lift k_money_Sum sp_money_Sum) := by
  refine pf_ok (T := T_money_Sum) (Γ := []) tOk_money_Sum (gOks_nil _) mixed Try.func17 (c := body Try.f17) (by kernel_rfl) (by kernel_rfl) k_money_Sum sp_money_Sum (by kernel_rfl) (by kernel_rfl) a_money_Sum ?_
  intro args hp s u hfit h
  unfold sp_money_Sum at h
  split at h
  · rename_i o_ns ns
    obtain ⟨hvc, rfl, rfl⟩ := h.vc
    clear h hfit
    change List Int at ns
    conv => whnf
    repeat' (first
      | (refine And.intro ?_ ?_ <;> try conv => whnf)
      | (intro hh; first | (cases hh; done) | conv => whnf))
    all_goals try first | rfl | kernel_rfl
    all_goals try simp only [decide_eq_true_eq, decide_eq_false_iff_not] at *
    all_goals try simp only [Key_eta, Share_eta, Journey_eta, Batch_eta, FieldT_eta, OpB_eta, Product_eta, Key_beq, Share_beq, Journey_beq, FieldT_beq, Product_beq, toNat0, toNat1, toNat2, toNat3, toNat4, toNat5, toNat6, toNat7, toNat8, toNat9, toNat10, toNat11, toNat12, toNat13, toNat14, toNat15, toNat16, toNat17, toNat18, toNat19, iA, iOf, atS, rwA, castK, zK, true_and, and_true, decide_eq_true_eq, decide_eq_false_iff_not, beq_iff_eq, bne_iff_ne, beq_eq_false_iff_ne, bne_eq_false_iff_eq, Bool.not_eq_true', Bool.not_eq_false', Bool.not_eq_true, Bool.not_eq_false, Nat.succ_eq_add_one, Int.not_lt, Int.not_le, gt_iff_lt, ge_iff_le, show bytesS T_money_Sum 22 = 8 from rfl] at *
    all_goals obtain ⟨hL, hR⟩ := hvc
    all_goals try (refine Vc.mk ?_; obtain ⟨j, hj, rfl, _⟩ := ‹ISum _ _ _›; omega)
    · exact ⟨⟨0, Nat.zero_le _, rfl, rfl, by decide, by decide⟩⟩
    iterate 7 (
      rcases isum_more ‹ISum _ _ _› hL hR ‹_› with ⟨h1, h2⟩ | ⟨h1, h2, h3⟩
      · first
        | exact Res.mk (by simp only [sumE, sumV, h1]; exact ⟨rfl, rfl⟩)
        | (exfalso; omega)
      · first
        | exact ⟨h2, h3⟩
        | (exfalso; omega))
    · obtain ⟨j, hj, rfl, hs, _⟩ := ‹ISum _ _ _›
      obtain rfl : j = ns.length := by omega
      rw [List.drop_length] at hs
      simp only [sumGo] at hs
      exact Res.mk (by simp [sumE, sumV, ← hs])
  · exact h.fail.elim

def T_fare_right_1 : TT := [(3, ⟨.int .i64, 1, 8, [.int .i64 0], some .int⟩),
  (4, ⟨.bool, 1, 1, [.bool false], some .bool⟩),
  (39, ⟨.int .i64, 1, 8, [.int .i64 0], none⟩),
  (65, ⟨.slice 74, 1, 24, [.slice none 0 0], none⟩),
  (74, ⟨.strct [(0, 3), (1, 3), (2, 3), (3, 3), (4, 3), (5, 39), (6, 3), (7, 3), (8, 3), (9, 3)], 10, 80, [.int .i64 0, .int .i64 0, .int .i64 0, .int .i64 0, .int .i64 0, .int .i64 0, .int .i64 0, .int .i64 0, .int .i64 0, .int .i64 0], some .journey⟩),
  (76, ⟨.strct [(0, 3), (1, 3), (2, 65)], 3, 40, [.int .i64 0, .int .i64 0, .slice none 0 0], some .batch⟩)]
theorem tOk_fare_right_1 : TOk Try.prog T_fare_right_1 := tOk_of (by kernel_rfl)
def sp_fare_right_1 : Spec := fun args hp => match args, hp with
  | [.agg j_cs, .ptr 0 0, .ptr 1 0], [(0, .cells [.val (.int .i64 x_op), .val (.int .i64 x_n), .slF 2]), (1, .cells [.val (.int .i64 last_v)]), (2, .row o_x_js .journey x_js)] => (match decS .journey j_cs with
    | some j => .ok (bv (decide (j.op ≠ x_op) || decide (j.seq ≤ last_v))) [(1, some (.cells [iv j.seq]))]
    | none => .fail "struct")
  | _, _ => .fail "fare_right_1"
abbrev k_fare_right_1 : List (Option RK) := [none, none, none]
def a_fare_right_1 : List SV → List (Nat × VB) → Anns := fun _ _ => []
set_option maxHeartbeats 20000000 in
theorem ok_fare_right_1 : GOk Try.prog 126 (lift k_fare_right_1 sp_fare_right_1) := by
  refine pf_ok (T := T_fare_right_1) (Γ := []) tOk_fare_right_1 (gOks_nil _) mixed Try.func126 (c := body Try.f126) (by kernel_rfl) (by kernel_rfl) k_fare_right_1 sp_fare_right_1 (by kernel_rfl) (by kernel_rfl) a_fare_right_1 ?_
  intro args hp s u hfit h
  unfold sp_fare_right_1 at h
  split at h
  · rename_i j_cs x_op x_n last_v o_x_js x_js
    split at h
    case h_2 => exact h.fail.elim
    rename_i j h_j
    obtain rfl := decS_ok (k := .journey) rfl h_j
    clear h_j
    change Journey at j
    obtain ⟨rfl, rfl⟩ := h.ok
    clear h hfit
    conv => whnf
    repeat' (first
      | (refine And.intro ?_ ?_ <;> try conv => whnf)
      | (intro hh; first | (cases hh; done) | conv => whnf))
    all_goals try first | rfl | kernel_rfl
    all_goals try simp only [decide_eq_true_eq, decide_eq_false_iff_not] at *
    all_goals try simp only [Key_eta, Share_eta, Journey_eta, Batch_eta, FieldT_eta, OpB_eta, Product_eta, Key_beq, Share_beq, Journey_beq, FieldT_beq, Product_beq, toNat0, toNat1, toNat2, toNat3, toNat4, toNat5, toNat6, toNat7, toNat8, toNat9, toNat10, toNat11, toNat12, toNat13, toNat14, toNat15, toNat16, toNat17, toNat18, toNat19, iA, iOf, atS, rwA, castK, zK, true_and, and_true, decide_eq_true_eq, decide_eq_false_iff_not, beq_iff_eq, bne_iff_ne, beq_eq_false_iff_ne, bne_eq_false_iff_eq, Bool.not_eq_true', Bool.not_eq_false', Bool.not_eq_true, Bool.not_eq_false, Nat.succ_eq_add_one, Int.not_lt, Int.not_le, gt_iff_lt, ge_iff_le, show bytesS T_fare_right_1 65 = 80 from rfl] at *
    all_goals exact Res.mk (by simp [*])
  · exact h.fail.elim

def T_slices_IndexFunc_api_Journey_api_JourneyR1 : TT := [(3, ⟨.int .i64, 1, 8, [.int .i64 0], some .int⟩),
  (4, ⟨.bool, 1, 1, [.bool false], some .bool⟩),
  (39, ⟨.int .i64, 1, 8, [.int .i64 0], none⟩),
  (65, ⟨.slice 74, 1, 24, [.slice none 0 0], none⟩),
  (74, ⟨.strct [(0, 3), (1, 3), (2, 3), (3, 3), (4, 3), (5, 39), (6, 3), (7, 3), (8, 3), (9, 3)], 10, 80, [.int .i64 0, .int .i64 0, .int .i64 0, .int .i64 0, .int .i64 0, .int .i64 0, .int .i64 0, .int .i64 0, .int .i64 0, .int .i64 0], some .journey⟩),
  (121, ⟨.other, 1, 8, [.nilFunc], none⟩)]
theorem tOk_slices_IndexFunc_api_Journey_api_JourneyR1 : TOk Try.prog T_slices_IndexFunc_api_Journey_api_JourneyR1 := tOk_of (by kernel_rfl)
def sp_slices_IndexFunc_api_Journey_api_JourneyR1 : Spec := fun args hp => match args, hp with
  | [.slF 0, .fn (.func 126) [] [.ptr 1 0, .ptr 2 0]], [(0, .row o_js .journey js), (1, .cells [.val (.int .i64 x_op), .val (.int .i64 x_n), .slF 0]), (2, .cells [.val (.int .i64 last_v)])] => .vc (js.length ≤ 1099511627776 ∧ last_v = 0) (iv (scanJ x_op 0 js 0).1) [(2, some (.cells [iv (scanJ x_op 0 js 0).2]))]
  | _, _ => .fail "slices_IndexFunc_api_Journey_api_JourneyR1"
abbrev k_slices_IndexFunc_api_Journey_api_JourneyR1 : List (Option RK) := [some .journey, none]
def a_slices_IndexFunc_api_Journey_api_JourneyR1 : List SV → List (Nat × VB) → Anns := fun args hp => match args, hp with
  | [.slF 0, .fn (.func 126) [] [.ptr 1 0, .ptr 2 0]], [(0, .row o_js .journey js), (1, .cells [.val (.int .i64 x_op), .val (.int .i64 x_n), .slF 0]), (2, .cells [.val (.int .i64 last_v)])] => [(2, fun S => .inv [2] [] [] fun ids vs rs => { cars := [.i 8 .i64, .blk (atN ids 0) [.i .i64]], inv := fun ((i, (last, _), _) : Int × (Int × Unit) × Unit) => ISc x_op js i last, mu := fun ((i, (last, _), _) : Int × (Int × Unit) × Unit) => js.length - i.toNat })]
  | _, _ => []
set_option maxHeartbeats 20000000 in
theorem ok_slices_IndexFunc_api_Journey_api_JourneyR1 : GOk Try.prog 131 (lift k_slices_IndexFunc_api_Journey_api_JourneyR1 sp_slices_IndexFunc_api_Journey_api_JourneyR1) := by
  refine pf_ok (T := T_slices_IndexFunc_api_Journey_api_JourneyR1) (Γ := (126, lift k_fare_right_1 sp_fare_right_1) :: []) tOk_slices_IndexFunc_api_Journey_api_JourneyR1 (gOks_cons ok_fare_right_1 (gOks_nil _)) mixed Try.func131 (c := body Try.f131) (by kernel_rfl) (by kernel_rfl) k_slices_IndexFunc_api_Journey_api_JourneyR1 sp_slices_IndexFunc_api_Journey_api_JourneyR1 (by kernel_rfl) (by kernel_rfl) a_slices_IndexFunc_api_Journey_api_JourneyR1 ?_
  intro args hp s u hfit h
  unfold sp_slices_IndexFunc_api_Journey_api_JourneyR1 at h
  split at h
  · rename_i o_js js x_op x_n last_v
    obtain ⟨hvc, rfl, rfl⟩ := h.vc
    clear h hfit
    change List Journey at js
    conv => whnf
    repeat' (first
      | (refine And.intro ?_ ?_ <;> try conv => whnf)
      | (intro hh; first | (cases hh; done) | conv => whnf))
    all_goals try first | rfl | kernel_rfl
    all_goals try simp only [decide_eq_true_eq, decide_eq_false_iff_not] at *
    all_goals try simp only [Key_eta, Share_eta, Journey_eta, Batch_eta, FieldT_eta, OpB_eta, Product_eta, Key_beq, Share_beq, Journey_beq, FieldT_beq, Product_beq, toNat0, toNat1, toNat2, toNat3, toNat4, toNat5, toNat6, toNat7, toNat8, toNat9, toNat10, toNat11, toNat12, toNat13, toNat14, toNat15, toNat16, toNat17, toNat18, toNat19, iA, iOf, atS, rwA, castK, zK, true_and, and_true, decide_eq_true_eq, decide_eq_false_iff_not, beq_iff_eq, bne_iff_ne, beq_eq_false_iff_ne, bne_eq_false_iff_eq, Bool.not_eq_true', Bool.not_eq_false', Bool.not_eq_true, Bool.not_eq_false, Nat.succ_eq_add_one, Int.not_lt, Int.not_le, gt_iff_lt, ge_iff_le, show bytesS T_slices_IndexFunc_api_Journey_api_JourneyR1 65 = 80 from rfl] at *
    all_goals obtain ⟨hL, rfl⟩ := hvc
    all_goals try (refine Vc.mk ?_; obtain ⟨j, hj, rfl, _⟩ := ‹ISc _ _ _ _›; omega)
    · exact ⟨⟨0, Nat.zero_le _, rfl, rfl⟩⟩
    · have h := (isc_more ‹ISc _ _ _ _› hL ‹_ < _›).1 ‹_›
      exact Res.mk (by rw [h]; exact ⟨rfl, rfl⟩)
    · have h := (isc_more ‹ISc _ _ _ _› hL ‹_ < _›).2 ‹_›
      exact ⟨h.1, h.2⟩
    · have h := scanJ_end ‹ISc _ _ _ _› ‹_›
      exact Res.mk (by rw [h]; exact ⟨rfl, rfl⟩)
  · exact h.fail.elim

def T_slices_ContainsFunc_api_Journey_api_JourneyR1 : TT := [(3, ⟨.int .i64, 1, 8, [.int .i64 0], some .int⟩),
  (4, ⟨.bool, 1, 1, [.bool false], some .bool⟩),
  (39, ⟨.int .i64, 1, 8, [.int .i64 0], none⟩),
  (65, ⟨.slice 74, 1, 24, [.slice none 0 0], none⟩),
  (74, ⟨.strct [(0, 3), (1, 3), (2, 3), (3, 3), (4, 3), (5, 39), (6, 3), (7, 3), (8, 3), (9, 3)], 10, 80, [.int .i64 0, .int .i64 0, .int .i64 0, .int .i64 0, .int .i64 0, .int .i64 0, .int .i64 0, .int .i64 0, .int .i64 0, .int .i64 0], some .journey⟩),
  (121, ⟨.other, 1, 8, [.nilFunc], none⟩)]
theorem tOk_slices_ContainsFunc_api_Journey_api_JourneyR1 : TOk Try.prog T_slices_ContainsFunc_api_Journey_api_JourneyR1 := tOk_of (by kernel_rfl)
def sp_slices_ContainsFunc_api_Journey_api_JourneyR1 : Spec := fun args hp => match args, hp with
  | [.slF 0, .fn (.func 126) [] [.ptr 1 0, .ptr 2 0]], [(0, .row o_js .journey js), (1, .cells [.val (.int .i64 x_op), .val (.int .i64 x_n), .slF 0]), (2, .cells [.val (.int .i64 last_v)])] => .vc (js.length ≤ 1099511627776 ∧ last_v = 0) (bv (decide (0 ≤ (scanJ x_op 0 js 0).1))) [(2, some (.cells [iv (scanJ x_op 0 js 0).2]))]
  | _, _ => .fail "slices_ContainsFunc_api_Journey_api_JourneyR1"
abbrev k_slices_ContainsFunc_api_Journey_api_JourneyR1 : List (Option RK) := [some .journey, none]
def a_slices_ContainsFunc_api_Journey_api_JourneyR1 : List SV → List (Nat × VB) → Anns := fun _ _ => []
set_option maxHeartbeats 20000000 in
theorem ok_slices_ContainsFunc_api_Journey_api_JourneyR1 : GOk Try.prog 125 (lift k_slices_ContainsFunc_api_Journey_api_JourneyR1 sp_slices_ContainsFunc_api_Journey_api_JourneyR1) := by
  refine pf_ok (T := T_slices_ContainsFunc_api_Journey_api_JourneyR1) (Γ := (131, lift k_slices_IndexFunc_api_Journey_api_JourneyR1 sp_slices_IndexFunc_api_Journey_api_JourneyR1) :: []) tOk_slices_ContainsFunc_api_Journey_api_JourneyR1 (gOks_cons ok_slices_IndexFunc_api_Journey_api_JourneyR1 (gOks_nil _)) mixed Try.func125 (c := body Try.f125) (by kernel_rfl) (by kernel_rfl) k_slices_ContainsFunc_api_Journey_api_JourneyR1 sp_slices_ContainsFunc_api_Journey_api_JourneyR1 (by kernel_rfl) (by kernel_rfl) a_slices_ContainsFunc_api_Journey_api_JourneyR1 ?_
  intro args hp s u hfit h
  unfold sp_slices_ContainsFunc_api_Journey_api_JourneyR1 at h
  split at h
  · rename_i o_js js x_op x_n last_v
    obtain ⟨hvc, rfl, rfl⟩ := h.vc
    clear h hfit
    change List Journey at js
    conv => whnf
    repeat' (first
      | (refine And.intro ?_ ?_ <;> try conv => whnf)
      | (intro hh; first | (cases hh; done) | conv => whnf))
    all_goals try first | rfl | kernel_rfl
    all_goals try simp only [decide_eq_true_eq, decide_eq_false_iff_not] at *
    all_goals try simp only [Key_eta, Share_eta, Journey_eta, Batch_eta, FieldT_eta, OpB_eta, Product_eta, Key_beq, Share_beq, Journey_beq, FieldT_beq, Product_beq, toNat0, toNat1, toNat2, toNat3, toNat4, toNat5, toNat6, toNat7, toNat8, toNat9, toNat10, toNat11, toNat12, toNat13, toNat14, toNat15, toNat16, toNat17, toNat18, toNat19, iA, iOf, atS, rwA, castK, zK, true_and, and_true, decide_eq_true_eq, decide_eq_false_iff_not, beq_iff_eq, bne_iff_ne, beq_eq_false_iff_ne, bne_eq_false_iff_eq, Bool.not_eq_true', Bool.not_eq_false', Bool.not_eq_true, Bool.not_eq_false, Nat.succ_eq_add_one, Int.not_lt, Int.not_le, gt_iff_lt, ge_iff_le, show bytesS T_slices_ContainsFunc_api_Journey_api_JourneyR1 65 = 80 from rfl] at *
    all_goals first | exact Vc.mk hvc | exact Res.mk trivial
  · exact h.fail.elim

def T_fare_right : TT := [(3, ⟨.int .i64, 1, 8, [.int .i64 0], some .int⟩),
  (4, ⟨.bool, 1, 1, [.bool false], some .bool⟩),
  (22, ⟨.slice 3, 1, 24, [.slice none 0 0], none⟩),
  (39, ⟨.int .i64, 1, 8, [.int .i64 0], none⟩),
  (65, ⟨.slice 74, 1, 24, [.slice none 0 0], none⟩),
  (74, ⟨.strct [(0, 3), (1, 3), (2, 3), (3, 3), (4, 3), (5, 39), (6, 3), (7, 3), (8, 3), (9, 3)], 10, 80, [.int .i64 0, .int .i64 0, .int .i64 0, .int .i64 0, .int .i64 0, .int .i64 0, .int .i64 0, .int .i64 0, .int .i64 0, .int .i64 0], some .journey⟩),
  (76, ⟨.strct [(0, 3), (1, 3), (2, 65)], 3, 40, [.int .i64 0, .int .i64 0, .slice none 0 0], some .batch⟩),
  (121, ⟨.other, 1, 8, [.nilFunc], none⟩)]
theorem tOk_fare_right : TOk Try.prog T_fare_right := tOk_of (by kernel_rfl)
def sp_fare_right : Spec := fun args hp => match args, hp with
  | [.agg [.val (.int .i64 x_op), .val (.int .i64 x_n), .slF 0]], [(0, .row o_x_js .journey x_js)] => .vc ((⟨x_op, x_n, x_js⟩ : Batch).js.length ≤ 1099511627776) (bv (rightB (⟨x_op, x_n, x_js⟩ : Batch))) []
  | _, _ => .fail "fare_right"
abbrev k_fare_right : List (Option RK) := [none]
def a_fare_right : List SV → List (Nat × VB) → Anns := fun _ _ => []
set_option maxHeartbeats 20000000 in
theorem ok_fare_right : GOk Try.prog 109 (lift k_fare_right sp_fare_right) := by
  refine pf_ok (T := T_fare_right) (Γ := (105, lift k_fare_in sp_fare_in) :: (64, lift k_fare_Good sp_fare_Good) :: (125, lift k_slices_ContainsFunc_api_Journey_api_JourneyR1 sp_slices_ContainsFunc_api_Journey_api_JourneyR1) :: []) tOk_fare_right (gOks_cons ok_fare_in (gOks_cons ok_fare_Good (gOks_cons ok_slices_ContainsFunc_api_Journey_api_JourneyR1 (gOks_nil _)))) mixed Try.func109 (c := body Try.f109) (by kernel_rfl) (by kernel_rfl) k_fare_right sp_fare_right (by kernel_rfl) (by kernel_rfl) a_fare_right ?_
  intro args hp s u hfit h
  unfold sp_fare_right at h
  split at h
  · rename_i x_op x_n o_x_js x_js
    obtain ⟨hvc, rfl, rfl⟩ := h.vc
    clear h hfit
    conv => whnf
    repeat' (first
      | (refine And.intro ?_ ?_ <;> try conv => whnf)
      | (intro hh; first | (cases hh; done) | conv => whnf))
    all_goals try first | rfl | kernel_rfl
    all_goals try simp only [decide_eq_true_eq, decide_eq_false_iff_not] at *
    all_goals try simp only [Key_eta, Share_eta, Journey_eta, Batch_eta, FieldT_eta, OpB_eta, Product_eta, Key_beq, Share_beq, Journey_beq, FieldT_beq, Product_beq, toNat0, toNat1, toNat2, toNat3, toNat4, toNat5, toNat6, toNat7, toNat8, toNat9, toNat10, toNat11, toNat12, toNat13, toNat14, toNat15, toNat16, toNat17, toNat18, toNat19, iA, iOf, atS, rwA, castK, zK, true_and, and_true, decide_eq_true_eq, decide_eq_false_iff_not, beq_iff_eq, bne_iff_ne, beq_eq_false_iff_ne, bne_eq_false_iff_eq, Bool.not_eq_true', Bool.not_eq_false', Bool.not_eq_true, Bool.not_eq_false, Nat.succ_eq_add_one, Int.not_lt, Int.not_le, gt_iff_lt, ge_iff_le, show bytesS T_fare_right 22 = 8 from rfl, show bytesS T_fare_right 65 = 80 from rfl] at *
    all_goals try (refine Vc.mk ?_; first | omega | (simp only [List.length_cons, List.length_nil]; omega) | (simp only [List.length_cons, List.length_nil]; exact ⟨by omega, rfl⟩))
    all_goals try (refine Res.mk ?_; simp only [rightB, *, Bool.false_and, Bool.and_false]; done)
    all_goals (refine Res.mk ?_; simp only [rightB, *, Bool.true_and]; rw [Bool.eq_iff_iff]; simp)
  · exact h.fail.elim

def T_fare_PutBatch : TT := [(3, ⟨.int .i64, 1, 8, [.int .i64 0], some .int⟩),
  (4, ⟨.bool, 1, 1, [.bool false], some .bool⟩),
  (5, ⟨.int .u8, 1, 1, [.int .u8 0], some .u8⟩),
  (24, ⟨.int .i64, 1, 8, [.int .i64 0], none⟩),
  (39, ⟨.int .i64, 1, 8, [.int .i64 0], none⟩),
  (43, ⟨.slice 5, 1, 24, [.slice none 0 0], none⟩),
  (65, ⟨.slice 74, 1, 24, [.slice none 0 0], none⟩),
  (74, ⟨.strct [(0, 3), (1, 3), (2, 3), (3, 3), (4, 3), (5, 39), (6, 3), (7, 3), (8, 3), (9, 3)], 10, 80, [.int .i64 0, .int .i64 0, .int .i64 0, .int .i64 0, .int .i64 0, .int .i64 0, .int .i64 0, .int .i64 0, .int .i64 0, .int .i64 0], some .journey⟩),
  (76, ⟨.strct [(0, 3), (1, 3), (2, 65)], 3, 40, [.int .i64 0, .int .i64 0, .slice none 0 0], some .batch⟩),
  (138, ⟨.strct [(0, 43), (1, 3)], 2, 32, [.slice none 0 0, .int .i64 0], none⟩),
  (141, ⟨.strct [(0, 3), (1, 3)], 2, 16, [.int .i64 0, .int .i64 0], some .fieldT⟩),
  (187, ⟨.slice 141, 1, 24, [.slice none 0 0], none⟩)]
theorem tOk_fare_PutBatch : TOk Try.prog T_fare_PutBatch := tOk_of (by kernel_rfl)
def sp_fare_PutBatch : Spec := fun args hp => match args, hp with
  | [.agg [.val (.int .i64 x_op), .val (.int .i64 x_n), .slF 0]], [(0, .row o_x_js .journey x_js)] => .vc ((⟨x_op, x_n, x_js⟩ : Batch).js.length ≤ 4294967296) (.tup [.slF 2000, iv (putBE (⟨x_op, x_n, x_js⟩ : Batch))]) [(2000, some (.row true .u8 (putBB (⟨x_op, x_n, x_js⟩ : Batch))))]
  | _, _ => .fail "fare_PutBatch"
abbrev k_fare_PutBatch : List (Option RK) := [none]
def a_fare_PutBatch : List SV → List (Nat × VB) → Anns := fun _ _ => []
set_option maxHeartbeats 20000000 in
theorem ok_fare_PutBatch : GOk Try.prog 78 (lift k_fare_PutBatch sp_fare_PutBatch) := by
  refine pf_ok (T := T_fare_PutBatch) (Γ := (109, lift k_fare_right sp_fare_right) :: (76, lift k_bits_Writer_Put sp_bits_Writer_Put) :: (79, lift k_fare_Put sp_fare_Put) :: (77, lift k_bits_Writer_Bytes sp_bits_Writer_Bytes) :: []) tOk_fare_PutBatch (gOks_cons ok_fare_right (gOks_cons ok_bits_Writer_Put (gOks_cons ok_fare_Put (gOks_cons ok_bits_Writer_Bytes (gOks_nil _))))) mixed Try.func78 (c := body Try.f78) (by kernel_rfl) (by kernel_rfl) k_fare_PutBatch sp_fare_PutBatch (by kernel_rfl) (by kernel_rfl) a_fare_PutBatch ?_
  intro args hp s u hfit h
  unfold sp_fare_PutBatch at h
  split at h
  · rename_i x_op x_n o_x_js x_js
    obtain ⟨hvc, rfl, rfl⟩ := h.vc
    clear h hfit
    conv => whnf
    repeat' (first
      | (refine And.intro ?_ ?_ <;> try conv => whnf)
      | (intro hh; first | (cases hh; done) | conv => whnf))
    all_goals try first | rfl | kernel_rfl
    all_goals try simp only [decide_eq_true_eq, decide_eq_false_iff_not] at *
    all_goals try simp only [Key_eta, Share_eta, Journey_eta, Batch_eta, FieldT_eta, OpB_eta, Product_eta, Key_beq, Share_beq, Journey_beq, FieldT_beq, Product_beq, toNat0, toNat1, toNat2, toNat3, toNat4, toNat5, toNat6, toNat7, toNat8, toNat9, toNat10, toNat11, toNat12, toNat13, toNat14, toNat15, toNat16, toNat17, toNat18, toNat19, iA, iOf, atS, rwA, castK, zK, true_and, and_true, decide_eq_true_eq, decide_eq_false_iff_not, beq_iff_eq, bne_iff_ne, beq_eq_false_iff_ne, bne_eq_false_iff_eq, Bool.not_eq_true', Bool.not_eq_false', Bool.not_eq_true, Bool.not_eq_false, Nat.succ_eq_add_one, Int.not_lt, Int.not_le, gt_iff_lt, ge_iff_le, show bytesS T_fare_PutBatch 43 = 1 from rfl, show bytesS T_fare_PutBatch 65 = 80 from rfl, show bytesS T_fare_PutBatch 187 = 16 from rfl] at *
    · exact Vc.mk (by omega)
    · exact Res.mk (by simp [putBB, putBE, *])
    all_goals (
      have hr := ‹rightB _ = true›
      have h3 := put3 hr
      obtain ⟨h1, h2, h4, h5, h6⟩ := (rightB_iff _).1 hr
      try simp only at h3 h5 h4
      have h7 := form_length x_js)
    · exact Vc.mk ⟨by simp, by intro f hf; simp at hf; rcases hf with rfl | rfl | rfl <;> rfl, by simp⟩
    · exact Vc.mk (by omega)
    · rw [h3]; exact Vc.mk (by simp [be_length])
    · rw [h3]; exact Vc.mk (by simp [be_length, putJ, h5]; omega)
    · rw [h3]; exact Res.mk (by simp [putBB, putBE, putJ, hr, h5])
  · exact h.fail.elim

def T_fare_GetBatch : TT := [(3, ⟨.int .i64, 1, 8, [.int .i64 0], some .int⟩),
  (4, ⟨.bool, 1, 1, [.bool false], some .bool⟩),
  (5, ⟨.int .u8, 1, 1, [.int .u8 0], some .u8⟩),
  (22, ⟨.slice 3, 1, 24, [.slice none 0 0], none⟩),
  (24, ⟨.int .i64, 1, 8, [.int .i64 0], none⟩),
  (39, ⟨.int .i64, 1, 8, [.int .i64 0], none⟩),
  (43, ⟨.slice 5, 1, 24, [.slice none 0 0], none⟩),
  (65, ⟨.slice 74, 1, 24, [.slice none 0 0], none⟩),
  (74, ⟨.strct [(0, 3), (1, 3), (2, 3), (3, 3), (4, 3), (5, 39), (6, 3), (7, 3), (8, 3), (9, 3)], 10, 80, [.int .i64 0, .int .i64 0, .int .i64 0, .int .i64 0, .int .i64 0, .int .i64 0, .int .i64 0, .int .i64 0, .int .i64 0, .int .i64 0], some .journey⟩),
  (76, ⟨.strct [(0, 3), (1, 3), (2, 65)], 3, 40, [.int .i64 0, .int .i64 0, .slice none 0 0], some .batch⟩),
  (127, ⟨.ptr, 1, 8, [.pointer none], none⟩)]
theorem tOk_fare_GetBatch : TOk Try.prog T_fare_GetBatch := tOk_of (by kernel_rfl)
def sp_fare_GetBatch : Spec := fun args hp => match args, hp with
  | [.slF 0], [(0, .row o_b .u8 b)] => .vc (isB b ∧ b.length ≤ 1099511627776) (.tup [.agg [iv (getB b).op, iv (getB b).n, .slF 2000], iv (getBE b)]) [(2000, some (.row true .journey (getB b).js))]
  | _, _ => .fail "fare_GetBatch"
abbrev k_fare_GetBatch : List (Option RK) := [some .u8]
def a_fare_GetBatch : List SV → List (Nat × VB) → Anns := fun _ _ => []
set_option maxHeartbeats 20000000 in
theorem ok_fare_GetBatch : GOk Try.prog 74 (lift k_fare_GetBatch sp_fare_GetBatch) := by
  refine pf_ok (T := T_fare_GetBatch) (Γ := (71, lift k_bits_Read sp_bits_Read) :: (72, lift k_bits_Reader_Take sp_bits_Reader_Take) :: (75, lift k_fare_GetP sp_fare_GetP) :: (109, lift k_fare_right sp_fare_right) :: []) tOk_fare_GetBatch (gOks_cons ok_bits_Read (gOks_cons ok_bits_Reader_Take (gOks_cons ok_fare_GetP (gOks_cons ok_fare_right (gOks_nil _))))) mixed Try.func74 (c := body Try.f74) (by kernel_rfl) (by kernel_rfl) k_fare_GetBatch sp_fare_GetBatch (by kernel_rfl) (by kernel_rfl) a_fare_GetBatch ?_
  intro args hp s u hfit h
  unfold sp_fare_GetBatch at h
  split at h
  · rename_i o_b b
    obtain ⟨hvc, rfl, rfl⟩ := h.vc
    clear h hfit
    change List Int at b
    conv => whnf
    repeat' (first
      | (refine And.intro ?_ ?_ <;> try conv => whnf)
      | (intro hh; first | (cases hh; done) | conv => whnf))
    all_goals try first | rfl | kernel_rfl
    all_goals try simp only [decide_eq_true_eq, decide_eq_false_iff_not] at *
    all_goals try simp only [Key_eta, Share_eta, Journey_eta, Batch_eta, FieldT_eta, OpB_eta, Product_eta, Key_beq, Share_beq, Journey_beq, FieldT_beq, Product_beq, toNat0, toNat1, toNat2, toNat3, toNat4, toNat5, toNat6, toNat7, toNat8, toNat9, toNat10, toNat11, toNat12, toNat13, toNat14, toNat15, toNat16, toNat17, toNat18, toNat19, iA, iOf, atS, rwA, castK, zK, true_and, and_true, decide_eq_true_eq, decide_eq_false_iff_not, beq_iff_eq, bne_iff_ne, beq_eq_false_iff_ne, bne_eq_false_iff_eq, Bool.not_eq_true', Bool.not_eq_false', Bool.not_eq_true, Bool.not_eq_false, Nat.succ_eq_add_one, Int.not_lt, Int.not_le, gt_iff_lt, ge_iff_le, show bytesS T_fare_GetBatch 22 = 8 from rfl, show bytesS T_fare_GetBatch 43 = 1 from rfl, show bytesS T_fare_GetBatch 65 = 80 from rfl] at *
    all_goals obtain ⟨hB, hL⟩ := hvc
    all_goals have hd5 := hB.getD 5
    all_goals try simp only [show takeN b 0 0 [8, 32, 8] = headL b from rfl] at *
    all_goals have ht : (b.drop 6).take (b.length - 6) = b.drop 6 := List.take_of_length_le (by rw [List.length_drop]; exact Nat.le_refl _)
    all_goals try rw [ht]
    all_goals rcases headC b with ⟨c1, c2⟩ | ⟨c1, c2, c3⟩
    all_goals try (have c4 : (headL b).length = 0 := by rw [c2]; rfl)
    all_goals try (
      have c5 : IntKind.i64.wrap (6 + IntKind.i64.wrap (19 * (headL b).getD 2 0)) = 6 + 19 * b.getD 5 0 := by rw [c3, wrap64 (n := 19 * _) (by omega) (by omega), wrap64 (by omega) (by omega)])
    all_goals try (refine Vc.mk ?_; omega)
    all_goals try (exact Vc.mk ⟨by omega, by omega, by omega, w3, hB, hL, by simp⟩)
    all_goals try (exact Vc.mk ⟨hB.drop 6, by rw [List.length_drop]; omega⟩)
    all_goals try (exact Vc.mk (by have := getJ_length (b.drop 6); rw [List.length_drop] at this; omega))
    all_goals try (exfalso; omega)
    all_goals try (
      have e : getBE b = 10 := by unfold getBE; rw [if_pos (by omega)]
      exact Res.mk (by unfold getB; rw [if_neg (by rw [e]; decide), e]; exact ⟨rfl, rfl, rfl, rfl⟩))
    all_goals try (
      have e : getBE b = 14 := by unfold getBE; rw [if_neg (by omega), if_pos (by omega)]
      exact Res.mk (by unfold getB; rw [if_neg (by rw [e]; decide), e]; exact ⟨rfl, rfl, rfl, rfl⟩))
    all_goals (have hq := ‹rightB _ = _›; rw [ht] at hq)
    · have hr : rightB (batchOf b) = false := hq
      have e : getBE b = 12 := by unfold getBE; rw [if_neg (by omega), if_neg (by omega), hr]; rfl
      exact Res.mk (by unfold getB; rw [if_neg (by rw [e]; decide), e]; exact ⟨rfl, rfl, rfl, rfl⟩)
    · have hr : rightB (batchOf b) = true := hq
      have e : getBE b = 0 := by unfold getBE; rw [if_neg (by omega), if_neg (by omega), hr]; rfl
      exact Res.mk (by unfold getB; rw [if_pos e, e]; exact ⟨rfl, rfl, rfl, rfl⟩)
  · exact h.fail.elim

end Go.Proofs.Ytgajbggdamlhlaa.Sx
