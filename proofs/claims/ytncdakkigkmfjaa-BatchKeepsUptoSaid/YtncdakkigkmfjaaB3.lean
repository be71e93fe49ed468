import Derived.Test.YtncdakkigkmfjaaProg
import Derived.Test.YtncdakkigkmfjaaSxU
import Derived.IntWalk
import Derived.Test.YtncdakkigkmfjaaB3r
/-! batch, Form -/
namespace Go.Proofs.Ytncdakkigkmfjaa.Sx
open Go
set_option linter.unusedVariables false
set_option linter.unusedSimpArgs false
set_option maxRecDepth 100000

def T_batch_Book_Ack_1 : TT := [(3, ⟨.int .i64, 1, 8, [.int .i64 0], some .int⟩),
  (4, ⟨.bool, 1, 1, [.bool false], some .bool⟩),
  (40, ⟨.int .i64, 1, 8, [.int .i64 0], none⟩),
  (54, ⟨.slice 73, 1, 24, [.slice none 0 0], none⟩),
  (56, ⟨.strct [(0, 3), (1, 3), (2, 54)], 3, 40, [.int .i64 0, .int .i64 0, .slice none 0 0], some .batch⟩),
  (73, ⟨.strct [(0, 3), (1, 3), (2, 3), (3, 3), (4, 3), (5, 40), (6, 3), (7, 3), (8, 3), (9, 3)], 10, 80, [.int .i64 0, .int .i64 0, .int .i64 0, .int .i64 0, .int .i64 0, .int .i64 0, .int .i64 0, .int .i64 0, .int .i64 0, .int .i64 0], some .journey⟩)]
theorem tOk_batch_Book_Ack_1 : TOk Try.prog T_batch_Book_Ack_1 := tOk_of (by kernel_rfl)
def sp_batch_Book_Ack_1 : Spec := fun args hp => match args, hp with
  | [.agg [.val (.int .i64 x_op), .val (.int .i64 x_n), .slF 0], .ptr 1 0], [(0, .row o_x_js .journey x_js), (1, .cells [.val (.int .i64 n_v)])] => .ok (bv (decide ((⟨x_op, x_n, x_js⟩ : Batch).n = n_v))) []
  | _, _ => .fail "batch_Book_Ack_1"
abbrev k_batch_Book_Ack_1 : List (Option RK) := [none, none]
def a_batch_Book_Ack_1 : List SV → List (Nat × VB) → Anns := fun _ _ => []
set_option maxHeartbeats 20000000 in
theorem ok_batch_Book_Ack_1 : GOk Try.prog 76 (lift k_batch_Book_Ack_1 sp_batch_Book_Ack_1) := by
  refine pf_ok (T := T_batch_Book_Ack_1) (Γ := []) tOk_batch_Book_Ack_1 (gOks_nil _) mixed Try.func76 (c := body Try.f76) (by kernel_rfl) (by kernel_rfl) k_batch_Book_Ack_1 sp_batch_Book_Ack_1 (by kernel_rfl) (by kernel_rfl) a_batch_Book_Ack_1 ?_
  intro args hp s u hfit h
  unfold sp_batch_Book_Ack_1 at h
  split at h
  · rename_i x_op x_n o_x_js x_js n_v
    obtain ⟨rfl, rfl⟩ := h.ok
    clear h hfit
    conv => whnf
    repeat' (first
      | (refine And.intro ?_ ?_ <;> try conv => whnf)
      | (intro hh; first | (cases hh; done) | conv => whnf))
    all_goals try first | rfl | kernel_rfl
    all_goals try simp only [decide_eq_true_eq, decide_eq_false_iff_not] at *
    all_goals try simp only [Key_eta, Share_eta, Journey_eta, Batch_eta, FieldT_eta, OpB_eta, Product_eta, Key_beq, Share_beq, Journey_beq, FieldT_beq, Product_beq, toNat0, toNat1, toNat2, toNat3, toNat4, toNat5, toNat6, toNat7, toNat8, toNat9, toNat10, toNat11, toNat12, toNat13, toNat14, toNat15, toNat16, toNat17, toNat18, toNat19, iA, iOf, atS, rwA, castK, zK, true_and, and_true, decide_eq_true_eq, decide_eq_false_iff_not, beq_iff_eq, bne_iff_ne, beq_eq_false_iff_ne, bne_eq_false_iff_eq, Bool.not_eq_true', Bool.not_eq_false', Bool.not_eq_true, Bool.not_eq_false, Nat.succ_eq_add_one, Int.not_lt, Int.not_le, gt_iff_lt, ge_iff_le, show bytesS T_batch_Book_Ack_1 54 = 80 from rfl] at *
    all_goals first | exact Res.mk trivial | (refine Res.mk ?_; rw [Bool.eq_iff_iff]; simp)
  · exact h.fail.elim

def T_slices_IndexFunc_api_Batch_api_Batch : TT := [(3, ⟨.int .i64, 1, 8, [.int .i64 0], some .int⟩),
  (4, ⟨.bool, 1, 1, [.bool false], some .bool⟩),
  (40, ⟨.int .i64, 1, 8, [.int .i64 0], none⟩),
  (54, ⟨.slice 73, 1, 24, [.slice none 0 0], none⟩),
  (56, ⟨.strct [(0, 3), (1, 3), (2, 54)], 3, 40, [.int .i64 0, .int .i64 0, .slice none 0 0], some .batch⟩),
  (60, ⟨.other, 1, 8, [.nilFunc], none⟩),
  (73, ⟨.strct [(0, 3), (1, 3), (2, 3), (3, 3), (4, 3), (5, 40), (6, 3), (7, 3), (8, 3), (9, 3)], 10, 80, [.int .i64 0, .int .i64 0, .int .i64 0, .int .i64 0, .int .i64 0, .int .i64 0, .int .i64 0, .int .i64 0, .int .i64 0, .int .i64 0], some .journey⟩),
  (83, ⟨.slice 56, 1, 24, [.slice none 0 0], none⟩)]
theorem tOk_slices_IndexFunc_api_Batch_api_Batch : TOk Try.prog T_slices_IndexFunc_api_Batch_api_Batch := tOk_of (by kernel_rfl)
def sp_slices_IndexFunc_api_Batch_api_Batch : Spec := fun args hp => match args, hp with
  | [.slF 0, .fn (.func 76) [] [.ptr 1 0]], [(0, .row o_xs .batch xs), (1, .cells [.val (.int .i64 n_v)])] => .vc (xs.length ≤ 1099511627776) (iv (findB n_v xs 0)) []
  | _, _ => .fail "slices_IndexFunc_api_Batch_api_Batch"
abbrev k_slices_IndexFunc_api_Batch_api_Batch : List (Option RK) := [some .batch, none]
def a_slices_IndexFunc_api_Batch_api_Batch : List SV → List (Nat × VB) → Anns := fun args hp => match args, hp with
  | [.slF 0, .fn (.func 76) [] [.ptr 1 0]], [(0, .row o_xs .batch xs), (1, .cells [.val (.int .i64 n_v)])] => [(2, fun S => .inv [] [] [] fun ids vs rs => { cars := [.i 8 .i64], inv := fun ((i, _) : Int × Unit) => IFind n_v xs i, mu := fun ((i, _) : Int × Unit) => xs.length - i.toNat })]
  | _, _ => []
set_option maxHeartbeats 20000000 in
theorem ok_slices_IndexFunc_api_Batch_api_Batch : GOk Try.prog 75 (lift k_slices_IndexFunc_api_Batch_api_Batch sp_slices_IndexFunc_api_Batch_api_Batch) := by
  refine pf_ok (T := T_slices_IndexFunc_api_Batch_api_Batch) (Γ := (76, lift k_batch_Book_Ack_1 sp_batch_Book_Ack_1) :: []) tOk_slices_IndexFunc_api_Batch_api_Batch (gOks_cons ok_batch_Book_Ack_1 (gOks_nil _)) mixed Try.func75 (c := body Try.f75) (by kernel_rfl) (by kernel_rfl) k_slices_IndexFunc_api_Batch_api_Batch sp_slices_IndexFunc_api_Batch_api_Batch (by kernel_rfl) (by kernel_rfl) a_slices_IndexFunc_api_Batch_api_Batch ?_
  intro args hp s u hfit h
  unfold sp_slices_IndexFunc_api_Batch_api_Batch at h
  split at h
  · rename_i o_xs xs n_v
    obtain ⟨hvc, rfl, rfl⟩ := h.vc
    clear h hfit
    change List Batch at xs
    conv => whnf
    repeat' (first
      | (refine And.intro ?_ ?_ <;> try conv => whnf)
      | (intro hh; first | (cases hh; done) | conv => whnf))
    all_goals try first | rfl | kernel_rfl
    all_goals try simp only [decide_eq_true_eq, decide_eq_false_iff_not] at *
    all_goals try simp only [Key_eta, Share_eta, Journey_eta, Batch_eta, FieldT_eta, OpB_eta, Product_eta, Key_beq, Share_beq, Journey_beq, FieldT_beq, Product_beq, toNat0, toNat1, toNat2, toNat3, toNat4, toNat5, toNat6, toNat7, toNat8, toNat9, toNat10, toNat11, toNat12, toNat13, toNat14, toNat15, toNat16, toNat17, toNat18, toNat19, iA, iOf, atS, rwA, castK, zK, true_and, and_true, decide_eq_true_eq, decide_eq_false_iff_not, beq_iff_eq, bne_iff_ne, beq_eq_false_iff_ne, bne_eq_false_iff_eq, Bool.not_eq_true', Bool.not_eq_false', Bool.not_eq_true, Bool.not_eq_false, Nat.succ_eq_add_one, Int.not_lt, Int.not_le, gt_iff_lt, ge_iff_le, show bytesS T_slices_IndexFunc_api_Batch_api_Batch 54 = 80 from rfl, show bytesS T_slices_IndexFunc_api_Batch_api_Batch 83 = 40 from rfl] at *
    all_goals try (
      have q1 := ‹IFind _ _ _›
      have e := ifind_more q1 hvc
      specialize e (by assumption)
      obtain ⟨f1, f2, f3⟩ := e)
    all_goals try (refine Vc.mk ?_; omega)
    · exact ⟨⟨0, Nat.zero_le _, rfl, rfl⟩⟩
    · exact Res.mk (f2 ‹_›)
    · exact ⟨(f3 ‹_›).1, (f3 ‹_›).2⟩
    · exact Res.mk (ifind_end ‹IFind _ _ _› ‹_›)
  · exact h.fail.elim

def T_batch_Book_AckN : TT := [(3, ⟨.int .i64, 1, 8, [.int .i64 0], some .int⟩),
  (4, ⟨.bool, 1, 1, [.bool false], some .bool⟩),
  (27, ⟨.int .i64, 1, 8, [.int .i64 0], none⟩),
  (40, ⟨.int .i64, 1, 8, [.int .i64 0], none⟩),
  (54, ⟨.slice 73, 1, 24, [.slice none 0 0], none⟩),
  (56, ⟨.strct [(0, 3), (1, 3), (2, 54)], 3, 40, [.int .i64 0, .int .i64 0, .slice none 0 0], some .batch⟩),
  (60, ⟨.other, 1, 8, [.nilFunc], none⟩),
  (68, ⟨.ptr, 1, 8, [.pointer none], none⟩),
  (73, ⟨.strct [(0, 3), (1, 3), (2, 3), (3, 3), (4, 3), (5, 40), (6, 3), (7, 3), (8, 3), (9, 3)], 10, 80, [.int .i64 0, .int .i64 0, .int .i64 0, .int .i64 0, .int .i64 0, .int .i64 0, .int .i64 0, .int .i64 0, .int .i64 0, .int .i64 0], some .journey⟩),
  (83, ⟨.slice 56, 1, 24, [.slice none 0 0], none⟩),
  (121, ⟨.strct [(0, 3), (1, 3), (2, 3), (3, 54), (4, 83)], 5, 72, [.int .i64 0, .int .i64 0, .int .i64 0, .slice none 0 0, .slice none 0 0], none⟩)]
theorem tOk_batch_Book_AckN : TOk Try.prog T_batch_Book_AckN := tOk_of (by kernel_rfl)
def sp_batch_Book_AckN : Spec := fun args hp => match args, hp with
  | [.ptr 0 0, .val (.int .i64 n)], [(0, .cells [.val (.int .i64 b_op), .val (.int .i64 b_last), .val (.int .i64 b_n), .slF 1, .slF 2]), (1, .row true .journey b_loose), (2, .row true .batch b_open)] => .vc (b_open.length ≤ 1048576 ∧ findB n b_open 0 = -1) (iv 21) []
  | _, _ => .fail "batch_Book_AckN"
abbrev k_batch_Book_AckN : List (Option RK) := [none, none]
def a_batch_Book_AckN : List SV → List (Nat × VB) → Anns := fun _ _ => []
set_option maxHeartbeats 20000000 in
theorem ok_batch_Book_AckN : GOk Try.prog 49 (lift k_batch_Book_AckN sp_batch_Book_AckN) := by
  refine pf_ok (T := T_batch_Book_AckN) (Γ := (75, lift k_slices_IndexFunc_api_Batch_api_Batch sp_slices_IndexFunc_api_Batch_api_Batch) :: []) tOk_batch_Book_AckN (gOks_cons ok_slices_IndexFunc_api_Batch_api_Batch (gOks_nil _)) mixed Try.func49 (c := body Try.f49) (by kernel_rfl) (by kernel_rfl) k_batch_Book_AckN sp_batch_Book_AckN (by kernel_rfl) (by kernel_rfl) a_batch_Book_AckN ?_
  intro args hp s u hfit h
  unfold sp_batch_Book_AckN at h
  split at h
  · rename_i n b_op b_last b_n b_loose b_open
    obtain ⟨hvc, rfl, rfl⟩ := h.vc
    clear h hfit
    conv => whnf
    repeat' (first
      | (refine And.intro ?_ ?_ <;> try conv => whnf)
      | (intro hh; first | (cases hh; done) | conv => whnf))
    all_goals try first | rfl | kernel_rfl
    all_goals try simp only [decide_eq_true_eq, decide_eq_false_iff_not] at *
    all_goals try simp only [Key_eta, Share_eta, Journey_eta, Batch_eta, FieldT_eta, OpB_eta, Product_eta, Key_beq, Share_beq, Journey_beq, FieldT_beq, Product_beq, toNat0, toNat1, toNat2, toNat3, toNat4, toNat5, toNat6, toNat7, toNat8, toNat9, toNat10, toNat11, toNat12, toNat13, toNat14, toNat15, toNat16, toNat17, toNat18, toNat19, iA, iOf, atS, rwA, castK, zK, true_and, and_true, decide_eq_true_eq, decide_eq_false_iff_not, beq_iff_eq, bne_iff_ne, beq_eq_false_iff_ne, bne_eq_false_iff_eq, Bool.not_eq_true', Bool.not_eq_false', Bool.not_eq_true, Bool.not_eq_false, Nat.succ_eq_add_one, Int.not_lt, Int.not_le, gt_iff_lt, ge_iff_le, show bytesS T_batch_Book_AckN 54 = 80 from rfl, show bytesS T_batch_Book_AckN 83 = 40 from rfl] at *
    all_goals obtain ⟨h1, h2⟩ := hvc
    all_goals try (exfalso; omega)
    · exact Vc.mk (by omega)
    · exact Res.mk trivial
  · exact h.fail.elim

def T_batch_Book_Form : TT := [(3, ⟨.int .i64, 1, 8, [.int .i64 0], some .int⟩),
  (5, ⟨.int .u8, 1, 1, [.int .u8 0], some .u8⟩),
  (27, ⟨.int .i64, 1, 8, [.int .i64 0], none⟩),
  (40, ⟨.int .i64, 1, 8, [.int .i64 0], none⟩),
  (54, ⟨.slice 73, 1, 24, [.slice none 0 0], none⟩),
  (56, ⟨.strct [(0, 3), (1, 3), (2, 54)], 3, 40, [.int .i64 0, .int .i64 0, .slice none 0 0], some .batch⟩),
  (57, ⟨.slice 5, 1, 24, [.slice none 0 0], none⟩),
  (68, ⟨.ptr, 1, 8, [.pointer none], none⟩),
  (73, ⟨.strct [(0, 3), (1, 3), (2, 3), (3, 3), (4, 3), (5, 40), (6, 3), (7, 3), (8, 3), (9, 3)], 10, 80, [.int .i64 0, .int .i64 0, .int .i64 0, .int .i64 0, .int .i64 0, .int .i64 0, .int .i64 0, .int .i64 0, .int .i64 0, .int .i64 0], some .journey⟩),
  (83, ⟨.slice 56, 1, 24, [.slice none 0 0], none⟩),
  (109, ⟨.strct [(0, 57), (1, 3)], 2, 32, [.slice none 0 0, .int .i64 0], none⟩),
  (112, ⟨.strct [(0, 3), (1, 3)], 2, 16, [.int .i64 0, .int .i64 0], some .fieldT⟩),
  (121, ⟨.strct [(0, 3), (1, 3), (2, 3), (3, 54), (4, 83)], 5, 72, [.int .i64 0, .int .i64 0, .int .i64 0, .slice none 0 0, .slice none 0 0], none⟩),
  (136, ⟨.slice 112, 1, 24, [.slice none 0 0], none⟩)]
theorem tOk_batch_Book_Form : TOk Try.prog T_batch_Book_Form := tOk_of (by kernel_rfl)
def sp_batch_Book_Form : Spec := fun args hp => match args, hp with
  | [.ptr 0 0], [(0, .cells [.val (.int .i64 b_op), .val (.int .i64 b_last), .val (.int .i64 b_n), .slF 1, .slF 2]), (1, .row true .journey b_loose), (2, .row true .batch b_open)] => .vc (b_open.length ≤ 1048576 ∧ b_loose.length ≤ 1048576 ∧ ∀ x ∈ b_open, x.js.length ≤ 1048576) (.slF 2000) [(2000, some (.row true .u8 (formBk b_op b_last b_n b_open b_loose)))]
  | _, _ => .fail "batch_Book_Form"
abbrev k_batch_Book_Form : List (Option RK) := [none]
def a_batch_Book_Form : List SV → List (Nat × VB) → Anns := fun args hp => match args, hp with
  | [.ptr 0 0], [(0, .cells [.val (.int .i64 b_op), .val (.int .i64 b_last), .val (.int .i64 b_n), .slF 1, .slF 2]), (1, .row true .journey b_loose), (2, .row true .batch b_open)] => [(5, fun S => .inv [] [] [] fun ids vs rs => { cars := [.i 46 .i64, .r 4 true .u8], inv := fun ((i, out, _) : Int × List Int × Unit) => IForm (headBk b_op b_last b_n b_open b_loose) b_open i out, mu := fun ((i, out, _) : Int × List Int × Unit) => b_open.length - i.toNat })]
  | _, _ => []
set_option maxHeartbeats 20000000 in
theorem ok_batch_Book_Form : GOk Try.prog 72 (lift k_batch_Book_Form sp_batch_Book_Form) := by
  refine pf_ok (T := T_batch_Book_Form) (Γ := (65, lift k_bits_Writer_Put sp_bits_Writer_Put) :: (66, lift k_bits_Writer_Bytes sp_bits_Writer_Bytes) :: (35, lift k_fare_PutBatch sp_fare_PutBatch) :: (52, lift k_fare_Put sp_fare_Put) :: []) tOk_batch_Book_Form (gOks_cons ok_bits_Writer_Put (gOks_cons ok_bits_Writer_Bytes (gOks_cons ok_fare_PutBatch (gOks_cons ok_fare_Put (gOks_nil _))))) mixed Try.func72 (c := body Try.f72) (by kernel_rfl) (by kernel_rfl) k_batch_Book_Form sp_batch_Book_Form (by kernel_rfl) (by kernel_rfl) a_batch_Book_Form ?_
  intro args hp s u hfit h
  unfold sp_batch_Book_Form at h
  split at h
  · rename_i b_op b_last b_n b_loose b_open
    obtain ⟨hvc, rfl, rfl⟩ := h.vc
    clear h hfit
    conv => whnf
    repeat' (first
      | (refine And.intro ?_ ?_ <;> try conv => whnf)
      | (intro hh; first | (cases hh; done) | conv => whnf))
    all_goals try first | rfl | kernel_rfl
    all_goals try simp only [decide_eq_true_eq, decide_eq_false_iff_not] at *
    all_goals try simp only [Key_eta, Share_eta, Journey_eta, Batch_eta, FieldT_eta, OpB_eta, Product_eta, Key_beq, Share_beq, Journey_beq, FieldT_beq, Product_beq, toNat0, toNat1, toNat2, toNat3, toNat4, toNat5, toNat6, toNat7, toNat8, toNat9, toNat10, toNat11, toNat12, toNat13, toNat14, toNat15, toNat16, toNat17, toNat18, toNat19, iA, iOf, atS, rwA, castK, zK, true_and, and_true, decide_eq_true_eq, decide_eq_false_iff_not, beq_iff_eq, bne_iff_ne, beq_eq_false_iff_ne, bne_eq_false_iff_eq, Bool.not_eq_true', Bool.not_eq_false', Bool.not_eq_true, Bool.not_eq_false, Nat.succ_eq_add_one, Int.not_lt, Int.not_le, gt_iff_lt, ge_iff_le, show bytesS T_batch_Book_Form 54 = 80 from rfl, show bytesS T_batch_Book_Form 57 = 1 from rfl, show bytesS T_batch_Book_Form 83 = 40 from rfl, show bytesS T_batch_Book_Form 136 = 16 from rfl] at *
    all_goals obtain ⟨h1, h2, h3⟩ := hvc
    all_goals have p5 := putB5_length ⟨8, b_op⟩ ⟨32, b_last⟩ ⟨32, b_n⟩ ⟨32, (b_open.length : Int)⟩ ⟨32, (b_loose.length : Int)⟩
    all_goals have pJ := putJ_length b_loose
    all_goals try (
      have q1 := ‹IForm _ _ _ _›
      have ql := iform_len q1 h3 h1
      have e := iform_more q1 h1
      specialize e (by assumption)
      obtain ⟨f0, f1, f2, f3⟩ := e
      have f4 := h3 _ f0
      have f6 := fun n => putBB_length (b_open.getD n ⟨0, 0, []⟩))
    all_goals try (
      have q1 := ‹IForm _ _ _ _›
      have ql := iform_len q1 h3 h1
      have e := iform_end q1
      specialize e (by assumption))
    all_goals try (refine Vc.mk ?_; omega)
    · exact Vc.mk ⟨by simp, by simp, by simp⟩
    · exact ⟨⟨0, Nat.zero_le _, rfl, by simp [headBk]⟩⟩
    · refine Vc.mk (Nat.le_trans (Nat.mul_le_mul_right 1 (Nat.add_le_add_left (f6 _) _)) ?_); omega
    · exact ⟨f2, f3⟩
    · exact Res.mk (by rw [e]; rfl)
  · exact h.fail.elim

end Go.Proofs.Ytncdakkigkmfjaa.Sx
