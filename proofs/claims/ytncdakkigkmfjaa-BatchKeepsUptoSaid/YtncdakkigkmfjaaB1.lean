import Derived.Test.YtncdakkigkmfjaaProg
import Derived.Test.YtncdakkigkmfjaaSxU
import Derived.IntWalk
import Derived.Test.YtncdakkigkmfjaaB1r
/-! batch -/
namespace Go.Proofs.Ytncdakkigkmfjaa.Sx
open Go
set_option linter.unusedVariables false
set_option linter.unusedSimpArgs false
set_option maxRecDepth 100000

def T_batch_New : TT := [(3, ⟨.int .i64, 1, 8, [.int .i64 0], some .int⟩),
  (4, ⟨.bool, 1, 1, [.bool false], some .bool⟩),
  (27, ⟨.int .i64, 1, 8, [.int .i64 0], none⟩),
  (40, ⟨.int .i64, 1, 8, [.int .i64 0], none⟩),
  (54, ⟨.slice 73, 1, 24, [.slice none 0 0], none⟩),
  (56, ⟨.strct [(0, 3), (1, 3), (2, 54)], 3, 40, [.int .i64 0, .int .i64 0, .slice none 0 0], some .batch⟩),
  (68, ⟨.ptr, 1, 8, [.pointer none], none⟩),
  (73, ⟨.strct [(0, 3), (1, 3), (2, 3), (3, 3), (4, 3), (5, 40), (6, 3), (7, 3), (8, 3), (9, 3)], 10, 80, [.int .i64 0, .int .i64 0, .int .i64 0, .int .i64 0, .int .i64 0, .int .i64 0, .int .i64 0, .int .i64 0, .int .i64 0, .int .i64 0], some .journey⟩),
  (83, ⟨.slice 56, 1, 24, [.slice none 0 0], none⟩),
  (121, ⟨.strct [(0, 3), (1, 3), (2, 3), (3, 54), (4, 83)], 5, 72, [.int .i64 0, .int .i64 0, .int .i64 0, .slice none 0 0, .slice none 0 0], none⟩)]
theorem tOk_batch_New : TOk Try.prog T_batch_New := tOk_of (by kernel_rfl)
def sp_batch_New : Spec := fun args hp => match args, hp with
  | [.val (.int .i64 op)], [] => .vc (1 ≤ op ∧ op ≤ 4) (.tup [.ptr 2000 0, iv 0]) [(2000, some (.cells [iv op, iv 0, iv 0, .slF 2001, .slF 2002])), (2001, some (.row true .journey [])), (2002, some (.row true .batch []))]
  | _, _ => .fail "batch_New"
abbrev k_batch_New : List (Option RK) := [none]
def a_batch_New : List SV → List (Nat × VB) → Anns := fun _ _ => []
set_option maxHeartbeats 20000000 in
theorem ok_batch_New : GOk Try.prog 42 (lift k_batch_New sp_batch_New) := by
  refine pf_ok (T := T_batch_New) (Γ := []) tOk_batch_New (gOks_nil _) mixed Try.func42 (c := body Try.f42) (by kernel_rfl) (by kernel_rfl) k_batch_New sp_batch_New (by kernel_rfl) (by kernel_rfl) a_batch_New ?_
  intro args hp s u hfit h
  unfold sp_batch_New at h
  split at h
  · rename_i op
    obtain ⟨hvc, rfl, rfl⟩ := h.vc
    clear h hfit
    conv => whnf
    repeat' (first
      | (refine And.intro ?_ ?_ <;> try conv => whnf)
      | (intro hh; first | (cases hh; done) | conv => whnf))
    all_goals try first | rfl | kernel_rfl
    all_goals try simp only [decide_eq_true_eq, decide_eq_false_iff_not] at *
    all_goals try simp only [Key_eta, Share_eta, Journey_eta, Batch_eta, FieldT_eta, OpB_eta, Product_eta, Key_beq, Share_beq, Journey_beq, FieldT_beq, Product_beq, toNat0, toNat1, toNat2, toNat3, toNat4, toNat5, toNat6, toNat7, toNat8, toNat9, toNat10, toNat11, toNat12, toNat13, toNat14, toNat15, toNat16, toNat17, toNat18, toNat19, iA, iOf, atS, rwA, castK, zK, true_and, and_true, decide_eq_true_eq, decide_eq_false_iff_not, beq_iff_eq, bne_iff_ne, beq_eq_false_iff_ne, bne_eq_false_iff_eq, Bool.not_eq_true', Bool.not_eq_false', Bool.not_eq_true, Bool.not_eq_false, Nat.succ_eq_add_one, Int.not_lt, Int.not_le, gt_iff_lt, ge_iff_le, show bytesS T_batch_New 54 = 80 from rfl, show bytesS T_batch_New 83 = 40 from rfl] at *
    all_goals first | (exfalso; omega) | exact Res.mk trivial
  · exact h.fail.elim

def T_batch_Book_Last : TT := [(3, ⟨.int .i64, 1, 8, [.int .i64 0], some .int⟩),
  (40, ⟨.int .i64, 1, 8, [.int .i64 0], none⟩),
  (54, ⟨.slice 73, 1, 24, [.slice none 0 0], none⟩),
  (56, ⟨.strct [(0, 3), (1, 3), (2, 54)], 3, 40, [.int .i64 0, .int .i64 0, .slice none 0 0], some .batch⟩),
  (68, ⟨.ptr, 1, 8, [.pointer none], none⟩),
  (73, ⟨.strct [(0, 3), (1, 3), (2, 3), (3, 3), (4, 3), (5, 40), (6, 3), (7, 3), (8, 3), (9, 3)], 10, 80, [.int .i64 0, .int .i64 0, .int .i64 0, .int .i64 0, .int .i64 0, .int .i64 0, .int .i64 0, .int .i64 0, .int .i64 0, .int .i64 0], some .journey⟩),
  (83, ⟨.slice 56, 1, 24, [.slice none 0 0], none⟩),
  (121, ⟨.strct [(0, 3), (1, 3), (2, 3), (3, 54), (4, 83)], 5, 72, [.int .i64 0, .int .i64 0, .int .i64 0, .slice none 0 0, .slice none 0 0], none⟩)]
theorem tOk_batch_Book_Last : TOk Try.prog T_batch_Book_Last := tOk_of (by kernel_rfl)
def sp_batch_Book_Last : Spec := fun args hp => match args, hp with
  | [.ptr 0 0], [(0, .cells [.val (.int .i64 b_op), .val (.int .i64 b_last), .val (.int .i64 b_n), .slF 1, .slF 2]), (1, .row true .journey b_loose), (2, .row true .batch b_open)] => .ok (iv b_last) []
  | _, _ => .fail "batch_Book_Last"
abbrev k_batch_Book_Last : List (Option RK) := [none]
def a_batch_Book_Last : List SV → List (Nat × VB) → Anns := fun _ _ => []
set_option maxHeartbeats 20000000 in
theorem ok_batch_Book_Last : GOk Try.prog 47 (lift k_batch_Book_Last sp_batch_Book_Last) := by
  refine pf_ok (T := T_batch_Book_Last) (Γ := []) tOk_batch_Book_Last (gOks_nil _) mixed Try.func47 (c := body Try.f47) (by kernel_rfl) (by kernel_rfl) k_batch_Book_Last sp_batch_Book_Last (by kernel_rfl) (by kernel_rfl) a_batch_Book_Last ?_
  intro args hp s u hfit h
  unfold sp_batch_Book_Last at h
  split at h
  · rename_i b_op b_last b_n b_loose b_open
    obtain ⟨rfl, rfl⟩ := h.ok
    clear h hfit
    conv => whnf
    repeat' (first
      | (refine And.intro ?_ ?_ <;> try conv => whnf)
      | (intro hh; first | (cases hh; done) | conv => whnf))
    all_goals try first | rfl | kernel_rfl
    all_goals try simp only [decide_eq_true_eq, decide_eq_false_iff_not] at *
    all_goals try simp only [Key_eta, Share_eta, Journey_eta, Batch_eta, FieldT_eta, OpB_eta, Product_eta, Key_beq, Share_beq, Journey_beq, FieldT_beq, Product_beq, toNat0, toNat1, toNat2, toNat3, toNat4, toNat5, toNat6, toNat7, toNat8, toNat9, toNat10, toNat11, toNat12, toNat13, toNat14, toNat15, toNat16, toNat17, toNat18, toNat19, iA, iOf, atS, rwA, castK, zK, true_and, and_true, decide_eq_true_eq, decide_eq_false_iff_not, beq_iff_eq, bne_iff_ne, beq_eq_false_iff_ne, bne_eq_false_iff_eq, Bool.not_eq_true', Bool.not_eq_false', Bool.not_eq_true, Bool.not_eq_false, Nat.succ_eq_add_one, Int.not_lt, Int.not_le, gt_iff_lt, ge_iff_le, show bytesS T_batch_Book_Last 54 = 80 from rfl, show bytesS T_batch_Book_Last 83 = 40 from rfl] at *
    exact Res.mk trivial
  · exact h.fail.elim

def T_batch_Book_Accept : TT := [(3, ⟨.int .i64, 1, 8, [.int .i64 0], some .int⟩),
  (4, ⟨.bool, 1, 1, [.bool false], some .bool⟩),
  (27, ⟨.int .i64, 1, 8, [.int .i64 0], none⟩),
  (40, ⟨.int .i64, 1, 8, [.int .i64 0], none⟩),
  (54, ⟨.slice 73, 1, 24, [.slice none 0 0], none⟩),
  (56, ⟨.strct [(0, 3), (1, 3), (2, 54)], 3, 40, [.int .i64 0, .int .i64 0, .slice none 0 0], some .batch⟩),
  (68, ⟨.ptr, 1, 8, [.pointer none], none⟩),
  (73, ⟨.strct [(0, 3), (1, 3), (2, 3), (3, 3), (4, 3), (5, 40), (6, 3), (7, 3), (8, 3), (9, 3)], 10, 80, [.int .i64 0, .int .i64 0, .int .i64 0, .int .i64 0, .int .i64 0, .int .i64 0, .int .i64 0, .int .i64 0, .int .i64 0, .int .i64 0], some .journey⟩),
  (83, ⟨.slice 56, 1, 24, [.slice none 0 0], none⟩),
  (121, ⟨.strct [(0, 3), (1, 3), (2, 3), (3, 54), (4, 83)], 5, 72, [.int .i64 0, .int .i64 0, .int .i64 0, .slice none 0 0, .slice none 0 0], none⟩)]
theorem tOk_batch_Book_Accept : TOk Try.prog T_batch_Book_Accept := tOk_of (by kernel_rfl)
def sp_batch_Book_Accept : Spec := fun args hp => match args, hp with
  | [.ptr 0 0, .slF 1], [(0, .cells [.val (.int .i64 b_op), .val (.int .i64 b_last), .val (.int .i64 b_n), .slF 2, .slF 3]), (1, .row o_js .journey js), (2, .row true .journey b_loose), (3, .row true .batch b_open)] => .vc (js.length ≤ 1048576 ∧ b_loose.length ≤ 1048576) (iv (accE b_op b_last js)) [(0, some (.cells [iv b_op, iv (accL b_op b_last js), iv b_n, .slF 2000, .slF 3])), (2, none), (2000, some (.row true .journey (accR b_op b_last b_loose js)))]
  | _, _ => .fail "batch_Book_Accept"
abbrev k_batch_Book_Accept : List (Option RK) := [none, some .journey]
def a_batch_Book_Accept : List SV → List (Nat × VB) → Anns := fun args hp => match args, hp with
  | [.ptr 0 0, .slF 1], [(0, .cells [.val (.int .i64 b_op), .val (.int .i64 b_last), .val (.int .i64 b_n), .slF 2, .slF 3]), (1, .row o_js .journey js), (2, .row true .journey b_loose), (3, .row true .batch b_open)] => [(3, fun S => .inv [] [] [] fun ids vs rs => { cars := [.i 14 .i64, .i 5 .i64], inv := fun ((i, last, _) : Int × Int × Unit) => IAcc b_op b_last js i last, mu := fun ((i, last, _) : Int × Int × Unit) => js.length - i.toNat })]
  | _, _ => []
set_option maxHeartbeats 20000000 in
theorem ok_batch_Book_Accept : GOk Try.prog 43 (lift k_batch_Book_Accept sp_batch_Book_Accept) := by
  refine pf_ok (T := T_batch_Book_Accept) (Γ := (54, lift k_fare_Good sp_fare_Good) :: []) tOk_batch_Book_Accept (gOks_cons ok_fare_Good (gOks_nil _)) mixed Try.func43 (c := body Try.f43) (by kernel_rfl) (by kernel_rfl) k_batch_Book_Accept sp_batch_Book_Accept (by kernel_rfl) (by kernel_rfl) a_batch_Book_Accept ?_
  intro args hp s u hfit h
  unfold sp_batch_Book_Accept at h
  split at h
  · rename_i b_op b_last b_n o_js js b_loose b_open
    obtain ⟨hvc, rfl, rfl⟩ := h.vc
    clear h hfit
    change List Journey at js
    conv => whnf
    repeat' (first
      | (refine And.intro ?_ ?_ <;> try conv => whnf)
      | (intro hh; first | (cases hh; done) | conv => whnf))
    all_goals try first | rfl | kernel_rfl
    all_goals try simp only [decide_eq_true_eq, decide_eq_false_iff_not] at *
    all_goals try simp only [Key_eta, Share_eta, Journey_eta, Batch_eta, FieldT_eta, OpB_eta, Product_eta, Key_beq, Share_beq, Journey_beq, FieldT_beq, Product_beq, toNat0, toNat1, toNat2, toNat3, toNat4, toNat5, toNat6, toNat7, toNat8, toNat9, toNat10, toNat11, toNat12, toNat13, toNat14, toNat15, toNat16, toNat17, toNat18, toNat19, iA, iOf, atS, rwA, castK, zK, true_and, and_true, decide_eq_true_eq, decide_eq_false_iff_not, beq_iff_eq, bne_iff_ne, beq_eq_false_iff_ne, bne_eq_false_iff_eq, Bool.not_eq_true', Bool.not_eq_false', Bool.not_eq_true, Bool.not_eq_false, Nat.succ_eq_add_one, Int.not_lt, Int.not_le, gt_iff_lt, ge_iff_le, show bytesS T_batch_Book_Accept 54 = 80 from rfl, show bytesS T_batch_Book_Accept 83 = 40 from rfl] at *
    all_goals obtain ⟨hL, hL2⟩ := hvc
    all_goals try (obtain ⟨j, hj, rfl, h1, h2⟩ := ‹IAcc _ _ _ _ _›)
    all_goals (try simp only [Int.toNat_natCast] at *)
    all_goals try (refine Vc.mk ?_; first | omega | (simp only [List.length_cons, List.length_nil]; omega))
    · exact ⟨⟨0, Nat.zero_le _, rfl, rfl, rfl⟩⟩
    · exact Res.mk (acc_bad (acc_two (by omega) h1 (.inl ((good_1 _).symm.trans ‹good _ = false›))) (by decide))
    · exact Res.mk (acc_bad (acc_two (by omega) h1 (.inr ‹_ ≠ b_op›)) (by decide))
    · exact Res.mk (acc_bad (acc_old (by omega) h1 ((good_1 _).symm.trans ‹good _ = true›) ‹_ = b_op› ‹(js.getD j _).seq ≤ _›) (by decide))
    · have h := acc_more (by omega) h1 h2 ((good_1 _).symm.trans ‹good _ = true›) ‹_ = b_op› ‹_ < (js.getD j _).seq›
      exact ⟨⟨j + 1, by omega, by rw [wrap64] <;> omega, h.1, h.2⟩, by rw [wrap64] <;> omega⟩
    · exact Res.mk (acc_end (by omega) h1 h2)
  · exact h.fail.elim

def T_slices_Clone_api_Journey_api_Journey : TT := [(3, ⟨.int .i64, 1, 8, [.int .i64 0], some .int⟩),
  (4, ⟨.bool, 1, 1, [.bool false], some .bool⟩),
  (40, ⟨.int .i64, 1, 8, [.int .i64 0], none⟩),
  (54, ⟨.slice 73, 1, 24, [.slice none 0 0], none⟩),
  (73, ⟨.strct [(0, 3), (1, 3), (2, 3), (3, 3), (4, 3), (5, 40), (6, 3), (7, 3), (8, 3), (9, 3)], 10, 80, [.int .i64 0, .int .i64 0, .int .i64 0, .int .i64 0, .int .i64 0, .int .i64 0, .int .i64 0, .int .i64 0, .int .i64 0, .int .i64 0], some .journey⟩)]
theorem tOk_slices_Clone_api_Journey_api_Journey : TOk Try.prog T_slices_Clone_api_Journey_api_Journey := tOk_of (by kernel_rfl)
def sp_slices_Clone_api_Journey_api_Journey : Spec := fun args hp => match args, hp with
  | [.slF 0], [(0, .row o_b .journey b)] => .vc (b.length ≤ 1099511627776) (.slF 2000) [(2000, some (.row true .journey b))]
  | _, _ => .fail "slices_Clone_api_Journey_api_Journey"
abbrev k_slices_Clone_api_Journey_api_Journey : List (Option RK) := [some .journey]
def a_slices_Clone_api_Journey_api_Journey : List SV → List (Nat × VB) → Anns := fun _ _ => []
set_option maxHeartbeats 20000000 in
theorem ok_slices_Clone_api_Journey_api_Journey : GOk Try.prog 73 (lift k_slices_Clone_api_Journey_api_Journey sp_slices_Clone_api_Journey_api_Journey) := by
  refine pf_ok (T := T_slices_Clone_api_Journey_api_Journey) (Γ := []) tOk_slices_Clone_api_Journey_api_Journey (gOks_nil _) mixed Try.func73 (c := body Try.f73) (by kernel_rfl) (by kernel_rfl) k_slices_Clone_api_Journey_api_Journey sp_slices_Clone_api_Journey_api_Journey (by kernel_rfl) (by kernel_rfl) a_slices_Clone_api_Journey_api_Journey ?_
  intro args hp s u hfit h
  unfold sp_slices_Clone_api_Journey_api_Journey at h
  split at h
  · rename_i o_b b
    obtain ⟨hvc, rfl, rfl⟩ := h.vc
    clear h hfit
    change List Journey at b
    conv => whnf
    repeat' (first
      | (refine And.intro ?_ ?_ <;> try conv => whnf)
      | (intro hh; first | (cases hh; done) | conv => whnf))
    all_goals try first | rfl | kernel_rfl
    all_goals try simp only [decide_eq_true_eq, decide_eq_false_iff_not] at *
    all_goals try simp only [Key_eta, Share_eta, Journey_eta, Batch_eta, FieldT_eta, OpB_eta, Product_eta, Key_beq, Share_beq, Journey_beq, FieldT_beq, Product_beq, toNat0, toNat1, toNat2, toNat3, toNat4, toNat5, toNat6, toNat7, toNat8, toNat9, toNat10, toNat11, toNat12, toNat13, toNat14, toNat15, toNat16, toNat17, toNat18, toNat19, iA, iOf, atS, rwA, castK, zK, true_and, and_true, decide_eq_true_eq, decide_eq_false_iff_not, beq_iff_eq, bne_iff_ne, beq_eq_false_iff_ne, bne_eq_false_iff_eq, Bool.not_eq_true', Bool.not_eq_false', Bool.not_eq_true, Bool.not_eq_false, Nat.succ_eq_add_one, Int.not_lt, Int.not_le, gt_iff_lt, ge_iff_le, show bytesS T_slices_Clone_api_Journey_api_Journey 54 = 80 from rfl] at *
    all_goals first
      | (refine Vc.mk ?_; simp only [List.length_nil]; omega)
      | (refine Res.mk ?_; exact List.nil_append _)
      | (refine Res.mk ?_; (have hl := ‹_ = true → _› ‹(bif false then !_ else _) = true›); first | exact (List.eq_nil_of_length_eq_zero hl).symm | (rw [hl, List.take_zero]))
  · exact h.fail.elim

def T_slices_Clone_api_Journey_api_JourneyP : TT := [(3, ⟨.int .i64, 1, 8, [.int .i64 0], some .int⟩),
  (4, ⟨.bool, 1, 1, [.bool false], some .bool⟩),
  (40, ⟨.int .i64, 1, 8, [.int .i64 0], none⟩),
  (54, ⟨.slice 73, 1, 24, [.slice none 0 0], none⟩),
  (73, ⟨.strct [(0, 3), (1, 3), (2, 3), (3, 3), (4, 3), (5, 40), (6, 3), (7, 3), (8, 3), (9, 3)], 10, 80, [.int .i64 0, .int .i64 0, .int .i64 0, .int .i64 0, .int .i64 0, .int .i64 0, .int .i64 0, .int .i64 0, .int .i64 0, .int .i64 0], some .journey⟩)]
theorem tOk_slices_Clone_api_Journey_api_JourneyP : TOk Try.prog T_slices_Clone_api_Journey_api_JourneyP := tOk_of (by kernel_rfl)
def sp_slices_Clone_api_Journey_api_JourneyP : Spec := fun args hp => match args, hp with
  | [.slP 0 b_i b_n], [(0, .row o_b .journey b)] => .vc (((b.drop b_i).take b_n).length ≤ 1099511627776) (.slF 2000) [(2000, some (.row true .journey ((b.drop b_i).take b_n)))]
  | _, _ => .fail "slices_Clone_api_Journey_api_JourneyP"
abbrev k_slices_Clone_api_Journey_api_JourneyP : List (Option RK) := [some .journey]
def a_slices_Clone_api_Journey_api_JourneyP : List SV → List (Nat × VB) → Anns := fun _ _ => []
set_option maxHeartbeats 20000000 in
theorem ok_slices_Clone_api_Journey_api_JourneyP : GOk Try.prog 73 (lift k_slices_Clone_api_Journey_api_JourneyP sp_slices_Clone_api_Journey_api_JourneyP) := by
  refine pf_ok (T := T_slices_Clone_api_Journey_api_JourneyP) (Γ := []) tOk_slices_Clone_api_Journey_api_JourneyP (gOks_nil _) mixed Try.func73 (c := body Try.f73) (by kernel_rfl) (by kernel_rfl) k_slices_Clone_api_Journey_api_JourneyP sp_slices_Clone_api_Journey_api_JourneyP (by kernel_rfl) (by kernel_rfl) a_slices_Clone_api_Journey_api_JourneyP ?_
  intro args hp s u hfit h
  unfold sp_slices_Clone_api_Journey_api_JourneyP at h
  split at h
  · rename_i b_i b_n o_b b
    obtain ⟨hvc, rfl, rfl⟩ := h.vc
    clear h
    change List Journey at b
    conv => whnf
    repeat' (first
      | (refine And.intro ?_ ?_ <;> try conv => whnf)
      | (intro hh; first | (cases hh; done) | conv => whnf))
    all_goals try first | rfl | kernel_rfl
    all_goals try simp only [decide_eq_true_eq, decide_eq_false_iff_not] at *
    all_goals try simp only [Key_eta, Share_eta, Journey_eta, Batch_eta, FieldT_eta, OpB_eta, Product_eta, Key_beq, Share_beq, Journey_beq, FieldT_beq, Product_beq, toNat0, toNat1, toNat2, toNat3, toNat4, toNat5, toNat6, toNat7, toNat8, toNat9, toNat10, toNat11, toNat12, toNat13, toNat14, toNat15, toNat16, toNat17, toNat18, toNat19, iA, iOf, atS, rwA, castK, zK, true_and, and_true, decide_eq_true_eq, decide_eq_false_iff_not, beq_iff_eq, bne_iff_ne, beq_eq_false_iff_ne, bne_eq_false_iff_eq, Bool.not_eq_true', Bool.not_eq_false', Bool.not_eq_true, Bool.not_eq_false, Nat.succ_eq_add_one, Int.not_lt, Int.not_le, gt_iff_lt, ge_iff_le, show bytesS T_slices_Clone_api_Journey_api_JourneyP 54 = 80 from rfl] at *
    all_goals first
      | (refine Vc.mk ?_; simp only [List.length_nil]; omega)
      | (refine Res.mk ?_; exact List.nil_append _)
      | (refine Res.mk ?_; (have hl := ‹_ = true → _› ‹(bif false then !_ else _) = true›); first | exact (List.eq_nil_of_length_eq_zero hl).symm | (rw [hl, List.take_zero]))
  · exact h.fail.elim

def T_batch_Book_Loose : TT := [(3, ⟨.int .i64, 1, 8, [.int .i64 0], some .int⟩),
  (40, ⟨.int .i64, 1, 8, [.int .i64 0], none⟩),
  (54, ⟨.slice 73, 1, 24, [.slice none 0 0], none⟩),
  (56, ⟨.strct [(0, 3), (1, 3), (2, 54)], 3, 40, [.int .i64 0, .int .i64 0, .slice none 0 0], some .batch⟩),
  (68, ⟨.ptr, 1, 8, [.pointer none], none⟩),
  (73, ⟨.strct [(0, 3), (1, 3), (2, 3), (3, 3), (4, 3), (5, 40), (6, 3), (7, 3), (8, 3), (9, 3)], 10, 80, [.int .i64 0, .int .i64 0, .int .i64 0, .int .i64 0, .int .i64 0, .int .i64 0, .int .i64 0, .int .i64 0, .int .i64 0, .int .i64 0], some .journey⟩),
  (83, ⟨.slice 56, 1, 24, [.slice none 0 0], none⟩),
  (121, ⟨.strct [(0, 3), (1, 3), (2, 3), (3, 54), (4, 83)], 5, 72, [.int .i64 0, .int .i64 0, .int .i64 0, .slice none 0 0, .slice none 0 0], none⟩)]
theorem tOk_batch_Book_Loose : TOk Try.prog T_batch_Book_Loose := tOk_of (by kernel_rfl)
def sp_batch_Book_Loose : Spec := fun args hp => match args, hp with
  | [.ptr 0 0], [(0, .cells [.val (.int .i64 b_op), .val (.int .i64 b_last), .val (.int .i64 b_n), .slF 1, .slF 2]), (1, .row true .journey b_loose), (2, .row true .batch b_open)] => .vc (b_loose.length ≤ 1099511627776) (.slF 2000) [(2000, some (.row true .journey b_loose))]
  | _, _ => .fail "batch_Book_Loose"
abbrev k_batch_Book_Loose : List (Option RK) := [none]
def a_batch_Book_Loose : List SV → List (Nat × VB) → Anns := fun _ _ => []
set_option maxHeartbeats 20000000 in
theorem ok_batch_Book_Loose : GOk Try.prog 45 (lift k_batch_Book_Loose sp_batch_Book_Loose) := by
  refine pf_ok (T := T_batch_Book_Loose) (Γ := (73, lift k_slices_Clone_api_Journey_api_Journey sp_slices_Clone_api_Journey_api_Journey) :: []) tOk_batch_Book_Loose (gOks_cons ok_slices_Clone_api_Journey_api_Journey (gOks_nil _)) mixed Try.func45 (c := body Try.f45) (by kernel_rfl) (by kernel_rfl) k_batch_Book_Loose sp_batch_Book_Loose (by kernel_rfl) (by kernel_rfl) a_batch_Book_Loose ?_
  intro args hp s u hfit h
  unfold sp_batch_Book_Loose at h
  split at h
  · rename_i b_op b_last b_n b_loose b_open
    obtain ⟨hvc, rfl, rfl⟩ := h.vc
    clear h hfit
    conv => whnf
    repeat' (first
      | (refine And.intro ?_ ?_ <;> try conv => whnf)
      | (intro hh; first | (cases hh; done) | conv => whnf))
    all_goals try first | rfl | kernel_rfl
    all_goals try simp only [decide_eq_true_eq, decide_eq_false_iff_not] at *
    all_goals try simp only [Key_eta, Share_eta, Journey_eta, Batch_eta, FieldT_eta, OpB_eta, Product_eta, Key_beq, Share_beq, Journey_beq, FieldT_beq, Product_beq, toNat0, toNat1, toNat2, toNat3, toNat4, toNat5, toNat6, toNat7, toNat8, toNat9, toNat10, toNat11, toNat12, toNat13, toNat14, toNat15, toNat16, toNat17, toNat18, toNat19, iA, iOf, atS, rwA, castK, zK, true_and, and_true, decide_eq_true_eq, decide_eq_false_iff_not, beq_iff_eq, bne_iff_ne, beq_eq_false_iff_ne, bne_eq_false_iff_eq, Bool.not_eq_true', Bool.not_eq_false', Bool.not_eq_true, Bool.not_eq_false, Nat.succ_eq_add_one, Int.not_lt, Int.not_le, gt_iff_lt, ge_iff_le, show bytesS T_batch_Book_Loose 54 = 80 from rfl, show bytesS T_batch_Book_Loose 83 = 40 from rfl] at *
    all_goals first | exact Vc.mk hvc | exact Res.mk trivial
  · exact h.fail.elim

def T_batch_copied : TT := [(3, ⟨.int .i64, 1, 8, [.int .i64 0], some .int⟩),
  (40, ⟨.int .i64, 1, 8, [.int .i64 0], none⟩),
  (54, ⟨.slice 73, 1, 24, [.slice none 0 0], none⟩),
  (56, ⟨.strct [(0, 3), (1, 3), (2, 54)], 3, 40, [.int .i64 0, .int .i64 0, .slice none 0 0], some .batch⟩),
  (73, ⟨.strct [(0, 3), (1, 3), (2, 3), (3, 3), (4, 3), (5, 40), (6, 3), (7, 3), (8, 3), (9, 3)], 10, 80, [.int .i64 0, .int .i64 0, .int .i64 0, .int .i64 0, .int .i64 0, .int .i64 0, .int .i64 0, .int .i64 0, .int .i64 0, .int .i64 0], some .journey⟩)]
theorem tOk_batch_copied : TOk Try.prog T_batch_copied := tOk_of (by kernel_rfl)
def sp_batch_copied : Spec := fun args hp => match args, hp with
  | [.agg [.val (.int .i64 x_op), .val (.int .i64 x_n), .slF 0]], [(0, .row o_x_js .journey x_js)] => .vc ((⟨x_op, x_n, x_js⟩ : Batch).js.length ≤ 1099511627776) (.agg [iv (⟨x_op, x_n, x_js⟩ : Batch).op, iv (⟨x_op, x_n, x_js⟩ : Batch).n, .slF 2000]) [(2000, some (.row true .journey (⟨x_op, x_n, x_js⟩ : Batch).js))]
  | _, _ => .fail "batch_copied"
abbrev k_batch_copied : List (Option RK) := [none]
def a_batch_copied : List SV → List (Nat × VB) → Anns := fun _ _ => []
set_option maxHeartbeats 20000000 in
theorem ok_batch_copied : GOk Try.prog 74 (lift k_batch_copied sp_batch_copied) := by
  refine pf_ok (T := T_batch_copied) (Γ := (73, lift k_slices_Clone_api_Journey_api_Journey sp_slices_Clone_api_Journey_api_Journey) :: []) tOk_batch_copied (gOks_cons ok_slices_Clone_api_Journey_api_Journey (gOks_nil _)) mixed Try.func74 (c := body Try.f74) (by kernel_rfl) (by kernel_rfl) k_batch_copied sp_batch_copied (by kernel_rfl) (by kernel_rfl) a_batch_copied ?_
  intro args hp s u hfit h
  unfold sp_batch_copied at h
  split at h
  · rename_i x_op x_n o_x_js x_js
    obtain ⟨hvc, rfl, rfl⟩ := h.vc
    clear h hfit
    conv => whnf
    repeat' (first
      | (refine And.intro ?_ ?_ <;> try conv => whnf)
      | (intro hh; first | (cases hh; done) | conv => whnf))
    all_goals try first | rfl | kernel_rfl
    all_goals try simp only [decide_eq_true_eq, decide_eq_false_iff_not] at *
    all_goals try simp only [Key_eta, Share_eta, Journey_eta, Batch_eta, FieldT_eta, OpB_eta, Product_eta, Key_beq, Share_beq, Journey_beq, FieldT_beq, Product_beq, toNat0, toNat1, toNat2, toNat3, toNat4, toNat5, toNat6, toNat7, toNat8, toNat9, toNat10, toNat11, toNat12, toNat13, toNat14, toNat15, toNat16, toNat17, toNat18, toNat19, iA, iOf, atS, rwA, castK, zK, true_and, and_true, decide_eq_true_eq, decide_eq_false_iff_not, beq_iff_eq, bne_iff_ne, beq_eq_false_iff_ne, bne_eq_false_iff_eq, Bool.not_eq_true', Bool.not_eq_false', Bool.not_eq_true, Bool.not_eq_false, Nat.succ_eq_add_one, Int.not_lt, Int.not_le, gt_iff_lt, ge_iff_le, show bytesS T_batch_copied 54 = 80 from rfl] at *
    all_goals first | exact Vc.mk hvc | exact Res.mk trivial
  · exact h.fail.elim

end Go.Proofs.Ytncdakkigkmfjaa.Sx
