import Derived.Test.YthbmllekbbfobaaProg
import Derived.Test.YthbmllekbbfobaaSxU
import Derived.IntWalk
import Derived.Test.YthbmllekbbfobaaF1r
/-! bits -/
namespace Go.Proofs.Ythbmllekbbfobaa.Sx
open Go
set_option linter.unusedVariables false
set_option linter.unusedSimpArgs false
set_option maxRecDepth 100000

def T_bits_right : TT := [(3, ⟨.int .i64, 1, 8, [.int .i64 0], some .int⟩),
  (4, ⟨.bool, 1, 1, [.bool false], some .bool⟩),
  (134, ⟨.strct [(0, 3), (1, 3)], 2, 16, [.int .i64 0, .int .i64 0], some .fieldT⟩)]
theorem tOk_bits_right : TOk Try.prog T_bits_right := tOk_of (by kernel_rfl)
def sp_bits_right : Spec := fun args hp => match args, hp with
  | [.agg f_cs], [] => (match decS .fieldT f_cs with
    | some f => .ok (bv (rightF f)) []
    | none => .fail "struct")
  | _, _ => .fail "bits_right"
abbrev k_bits_right : List (Option RK) := [none]
def a_bits_right : List SV → List (Nat × VB) → Anns := fun _ _ => []
set_option maxHeartbeats 20000000 in
theorem ok_bits_right : GOk Try.prog 112 (lift k_bits_right sp_bits_right) := by
  refine pf_ok (T := T_bits_right) (Γ := []) tOk_bits_right (gOks_nil _) mixed Try.func112 (c := body Try.f112) (by kernel_rfl) (by kernel_rfl) k_bits_right sp_bits_right (by kernel_rfl) (by kernel_rfl) a_bits_right ?_
  intro args hp s u hfit h
  unfold sp_bits_right at h
  split at h
  · rename_i f_cs
    split at h
    case h_2 => exact h.fail.elim
    rename_i f h_f
    obtain rfl := decS_ok (k := .fieldT) rfl h_f
    clear h_f
    change FieldT at f
    obtain ⟨rfl, rfl⟩ := h.ok
    clear h hfit
    conv => whnf
    repeat' (first
      | (refine And.intro ?_ ?_ <;> try conv => whnf)
      | (intro hh; first | (cases hh; done) | conv => whnf))
    all_goals try first | rfl | kernel_rfl
    all_goals try simp only [decide_eq_true_eq, decide_eq_false_iff_not] at *
    all_goals try simp only [Key_eta, Share_eta, Journey_eta, Batch_eta, FieldT_eta, OpB_eta, Product_eta, Item_eta, Delta_eta, Elem_eta, Rule_eta, Do10_eta, Ask_eta, Key_beq, Share_beq, Journey_beq, FieldT_beq, Product_beq, Item_beq, Do10_beq, Ask_beq, toNat0, toNat1, toNat2, toNat3, toNat4, toNat5, toNat6, toNat7, toNat8, toNat9, toNat10, toNat11, toNat12, toNat13, toNat14, toNat15, toNat16, toNat17, toNat18, toNat19, iA, iOf, atS, rwA, castK, zK, true_and, and_true, decide_eq_true_eq, decide_eq_false_iff_not, beq_iff_eq, bne_iff_ne, beq_eq_false_iff_ne, bne_eq_false_iff_eq, Bool.not_eq_true', Bool.not_eq_false', Bool.not_eq_true, Bool.not_eq_false, Nat.succ_eq_add_one, Int.not_lt, Int.not_le, gt_iff_lt, ge_iff_le] at *
    all_goals first
      | (refine Vc.mk ?_; omega)
      | (refine Res.mk ?_; rw [Bool.eq_iff_iff]; simp [rightF, *]; first | exact shr_zero ‹_› ‹_› ‹_› | omega)
  · exact h.fail.elim

def T_bits_Writer_Put : TT := [(3, ⟨.int .i64, 1, 8, [.int .i64 0], some .int⟩),
  (4, ⟨.bool, 1, 1, [.bool false], some .bool⟩),
  (5, ⟨.int .u8, 1, 1, [.int .u8 0], some .u8⟩),
  (25, ⟨.slice 5, 1, 24, [.slice none 0 0], none⟩),
  (27, ⟨.int .i64, 1, 8, [.int .i64 0], some .int⟩),
  (131, ⟨.strct [(0, 25), (1, 3)], 2, 32, [.slice none 0 0, .int .i64 0], none⟩),
  (134, ⟨.strct [(0, 3), (1, 3)], 2, 16, [.int .i64 0, .int .i64 0], some .fieldT⟩),
  (195, ⟨.ptr, 1, 8, [.pointer none], none⟩),
  (196, ⟨.slice 134, 1, 24, [.slice none 0 0], none⟩)]
theorem tOk_bits_Writer_Put : TOk Try.prog T_bits_Writer_Put := tOk_of (by kernel_rfl)
def sp_bits_Writer_Put : Spec := fun args hp => match args, hp with
  | [.ptr 0 0, .slF 1], [(0, .cells [.slF 2, .val (.int .i64 w_n)]), (1, .row o_fs .fieldT fs), (2, .row true .u8 w_b)] => .vc (w_n = 8 * w_b.length ∧ (∀ f ∈ fs, f.width % 8 = 0) ∧ w_b.length + 4 * fs.length ≤ 1099511627776) (iv (putE fs)) [(0, some (.cells [.slF 2000, iv (8 * (putB w_b fs).length)])), (2, none), (2000, some (.row true .u8 (putB w_b fs)))]
  | _, _ => .fail "bits_Writer_Put"
abbrev k_bits_Writer_Put : List (Option RK) := [none, some .fieldT]
def a_bits_Writer_Put : List SV → List (Nat × VB) → Anns := fun args hp => match args, hp with
  | [.ptr 0 0, .slF 1], [(0, .cells [.slF 2, .val (.int .i64 w_n)]), (1, .row o_fs .fieldT fs), (2, .row true .u8 w_b)] => [(2, fun S => .inv [] [] [] fun ids vs rs => { cars := [.i 12 .i64], inv := fun ((i, _) : Int × Unit) => IP1 fs i, mu := fun ((i, _) : Int × Unit) => fs.length - i.toNat }),
    (8, fun S => .inv [pOf (S.get 0)] [] [] fun ids vs rs => { cars := [.i 22 .i64, .blk (atN ids 0) [.r true .u8, .i .i64]], inv := fun ((i, (xs, n, _), _) : Int × (List Int × Int × Unit) × Unit) => IP2 w_b fs i xs n, mu := fun ((i, (xs, n, _), _) : Int × (List Int × Int × Unit) × Unit) => fs.length - i.toNat }),
    (11, fun S => .inv [pOf (S.get 0)] [S.get 22] [] fun ids vs rs => { cars := [.i 9 .i64, .blk (atN ids 0) [.r true .u8, .i .i64]], inv := fun ((i, (xs, n, _), _) : Int × (List Int × Int × Unit) × Unit) => IP3 (w_b ++ bytesF (fs.take ((iA vs 0)).toNat)) (fs.getD ((iA vs 0)).toNat ⟨0, 0⟩) i xs n, mu := fun ((i, (xs, n, _), _) : Int × (List Int × Int × Unit) × Unit) => (i + 1).toNat })]
  | _, _ => []
set_option maxHeartbeats 20000000 in
theorem ok_bits_Writer_Put : GOk Try.prog 61 (lift k_bits_Writer_Put sp_bits_Writer_Put) := by
  refine pf_ok (T := T_bits_Writer_Put) (Γ := (112, lift k_bits_right sp_bits_right) :: []) tOk_bits_Writer_Put (gOks_cons ok_bits_right (gOks_nil _)) mixed Try.func61 (c := body Try.f61) (by kernel_rfl) (by kernel_rfl) k_bits_Writer_Put sp_bits_Writer_Put (by kernel_rfl) (by kernel_rfl) a_bits_Writer_Put ?_
  intro args hp s u hfit h
  unfold sp_bits_Writer_Put at h
  split at h
  · rename_i w_n o_fs fs w_b
    obtain ⟨hvc, rfl, rfl⟩ := h.vc
    clear h hfit
    change List FieldT at fs
    conv => whnf
    repeat' (first
      | (refine And.intro ?_ ?_ <;> try conv => whnf)
      | (intro hh; first | (cases hh; done) | conv => whnf))
    all_goals try first | rfl | kernel_rfl
    all_goals try simp only [decide_eq_true_eq, decide_eq_false_iff_not] at *
    all_goals try simp only [Key_eta, Share_eta, Journey_eta, Batch_eta, FieldT_eta, OpB_eta, Product_eta, Item_eta, Delta_eta, Elem_eta, Rule_eta, Do10_eta, Ask_eta, Key_beq, Share_beq, Journey_beq, FieldT_beq, Product_beq, Item_beq, Do10_beq, Ask_beq, toNat0, toNat1, toNat2, toNat3, toNat4, toNat5, toNat6, toNat7, toNat8, toNat9, toNat10, toNat11, toNat12, toNat13, toNat14, toNat15, toNat16, toNat17, toNat18, toNat19, iA, iOf, atS, rwA, castK, zK, true_and, and_true, decide_eq_true_eq, decide_eq_false_iff_not, beq_iff_eq, bne_iff_ne, beq_eq_false_iff_ne, bne_eq_false_iff_eq, Bool.not_eq_true', Bool.not_eq_false', Bool.not_eq_true, Bool.not_eq_false, Nat.succ_eq_add_one, Int.not_lt, Int.not_le, gt_iff_lt, ge_iff_le, show bytesS T_bits_Writer_Put 25 = 1 from rfl, show bytesS T_bits_Writer_Put 196 = 16 from rfl] at *
    all_goals obtain ⟨hn, h8, hlen⟩ := hvc
    all_goals try (obtain ⟨j1, hj1, rfl, hr1⟩ := ‹IP1 _ _›)
    all_goals try (obtain ⟨j, hj, rfl, hr, rfl, hn2⟩ := ‹IP2 _ _ _ _ _›)
    all_goals try (
      have hj' : j < fs.length := by omega
      (try simp only [Int.toNat_natCast] at *)
      obtain ⟨q1, q2, q3, q4⟩ := rightF_w (all_getD (d := (⟨0, 0⟩ : FieldT)) hr hj')
      have q8 := h8 _ (mem_getD (d := (⟨0, 0⟩ : FieldT)) hj')
      have ql := bytesF_len (fs.take j) (by rw [List.all_eq_true] at *; exact fun x hx => hr x (List.mem_of_mem_take hx)))
    all_goals try (
      obtain ⟨k, hk, rfl, rfl, rfl⟩ := ‹IP3 _ _ _ _ _›
      obtain ⟨bl, hbl⟩ : ∃ bl, bl = (w_b ++ bytesF (fs.take j)).length := ⟨_, rfl⟩
      have hbl2 : bl ≤ w_b.length + 4 * j := by rw [hbl, List.length_append]; rw [List.length_take] at ql; omega
      have t1 : (8 * ((w_b ++ bytesF (fs.take j)).length : Int) + k).tdiv 8 = ((bl + k / 8 : Nat) : Int) := by rw [← hbl, Int.tdiv_eq_ediv_of_nonneg (by omega)]; omega
      have t2 : (8 * ((w_b ++ bytesF (fs.take j)).length : Int) + k).tmod 8 = ((k % 8 : Nat) : Int) := by rw [← hbl, Int.tmod_eq_emod_of_nonneg (by omega)]; omega
      have t3 : (wr (fs.getD j ⟨0, 0⟩).value (fs.getD j ⟨0, 0⟩).width.toNat k).length = (k + 7) / 8 := wr_length _ _ _
      have t4 : (fs.getD j ⟨0, 0⟩).value < 4294967296 := by
        have : (2 : Int) ^ (fs.getD j ⟨0, 0⟩).width.toNat ≤ 4294967296 := by
          obtain ⟨m, hm, hm'⟩ : ∃ m : Nat, (fs.getD j ⟨0, 0⟩).width.toNat = 8 * m ∧ m ≤ 4 := ⟨(fs.getD j ⟨0, 0⟩).width.toNat / 8, by omega, by omega⟩
          rw [hm]
          have : m = 0 ∨ m = 1 ∨ m = 2 ∨ m = 3 ∨ m = 4 := by omega
          rcases this with rfl | rfl | rfl | rfl | rfl <;> decide
        omega
      simp only [t1, t2] at *)
    all_goals try (refine Vc.mk ?_; (try simp (disch := omega) only [wrap64, List.length_append, List.length_cons, List.length_nil, Int.toNat_natCast]); (try simp only [List.length_append] at *); omega)
    · exact ⟨⟨0, Nat.zero_le _, rfl, by simp⟩⟩
    · have hf : ¬ fs.all rightF = true := fun hc => by
        rw [Int.toNat_natCast] at *
        exact Bool.noConfusion ((all_getD (d := (⟨0, 0⟩ : FieldT)) hc (show j1 < fs.length by omega)).symm.trans ‹rightF _ = false›)
      refine Res.mk ?_
      unfold putB putE
      rw [if_neg hf, if_neg hf]
      exact ⟨rfl, hn, rfl⟩
    · have hlt : j1 < fs.length := by omega
      refine ⟨⟨j1 + 1, by omega, by rw [wrap64] <;> omega, ?_⟩, by rw [wrap64] <;> omega⟩
      rw [take_getD (d := (⟨0, 0⟩ : FieldT)) hlt, List.all_append, hr1]
      rw [Int.toNat_natCast] at *
      simp only [List.all_cons, List.all_nil, Bool.and_true, Bool.true_and]
      assumption
    · obtain rfl : j1 = fs.length := by omega
      rw [List.take_length] at hr1
      exact ⟨⟨0, Nat.zero_le _, rfl, hr1, by simp [bytesF], hn⟩⟩
    · exact ⟨⟨0, by omega, by rw [wrap64] <;> omega, by simp [wr_zero], by omega⟩⟩
    · refine ⟨⟨k + 1, by omega, by rw [wrap64] <;> omega, ?_, by rw [wrap64] <;> omega⟩, by rw [wrap64] <;> omega⟩
      exact put_new q3 t4 (by omega) q2 (by omega) (by rw [wrap64 (by omega) (by omega), Int.toNat_natCast, hbl]) (by omega) (by rw [wrap64 (by omega) (by omega)]; omega)
    · refine ⟨⟨k + 1, by omega, by rw [wrap64] <;> omega, ?_, by rw [wrap64] <;> omega⟩, by rw [wrap64] <;> omega⟩
      exact put_more q3 t4 (by omega) q2 (by omega) (by rw [wrap64 (by omega) (by omega), Int.toNat_natCast, hbl]) (by omega) (by rw [wrap64 (by omega) (by omega)]; omega)
    · obtain ⟨m, hm⟩ : ∃ m : Nat, (fs.getD j ⟨0, 0⟩).width = ((8 * m : Nat) : Int) := ⟨(fs.getD j ⟨0, 0⟩).width.toNat / 8, by omega⟩
      have hkm : k = 8 * m := by omega
      subst hkm
      refine ⟨⟨j + 1, by omega, by rw [wrap64] <;> omega, hr, ?_, ?_⟩, by rw [wrap64] <;> omega⟩
      · rw [take_getD (d := (⟨0, 0⟩ : FieldT)) hj', bytesF_snoc, hm, Int.toNat_natCast, wr_full, show 8 * m / 8 = m by omega, List.append_assoc]
      · simp only [List.length_append, t3] at *
        omega
    · obtain rfl : j = fs.length := by omega
      rw [List.take_length] at *
      refine Res.mk ?_
      unfold putB putE
      rw [if_pos hr, if_pos hr]
      exact ⟨rfl, hn2, rfl⟩
  · exact h.fail.elim

def T_slices_Clone_byte_byte : TT := [(4, ⟨.bool, 1, 1, [.bool false], some .bool⟩),
  (5, ⟨.int .u8, 1, 1, [.int .u8 0], some .u8⟩),
  (25, ⟨.slice 5, 1, 24, [.slice none 0 0], none⟩)]
theorem tOk_slices_Clone_byte_byte : TOk Try.prog T_slices_Clone_byte_byte := tOk_of (by kernel_rfl)
def sp_slices_Clone_byte_byte : Spec := fun args hp => match args, hp with
  | [.slF 0], [(0, .row o_b .u8 b)] => .vc (b.length ≤ 1099511627776) (.slF 2000) [(2000, some (.row true .u8 b))]
  | _, _ => .fail "slices_Clone_byte_byte"
abbrev k_slices_Clone_byte_byte : List (Option RK) := [some .u8]
def a_slices_Clone_byte_byte : List SV → List (Nat × VB) → Anns := fun _ _ => []
set_option maxHeartbeats 20000000 in
theorem ok_slices_Clone_byte_byte : GOk Try.prog 113 (lift k_slices_Clone_byte_byte sp_slices_Clone_byte_byte) := by
  refine pf_ok (T := T_slices_Clone_byte_byte) (Γ := []) tOk_slices_Clone_byte_byte (gOks_nil _) mixed Try.func113 (c := body Try.f113) (by kernel_rfl) (by kernel_rfl) k_slices_Clone_byte_byte sp_slices_Clone_byte_byte (by kernel_rfl) (by kernel_rfl) a_slices_Clone_byte_byte ?_
  intro args hp s u hfit h
  unfold sp_slices_Clone_byte_byte at h
  split at h
  · rename_i o_b b
    obtain ⟨hvc, rfl, rfl⟩ := h.vc
    clear h hfit
    change List Int at b
    conv => whnf
    repeat' (first
      | (refine And.intro ?_ ?_ <;> try conv => whnf)
      | (intro hh; first | (cases hh; done) | conv => whnf))
    all_goals try first | rfl | kernel_rfl
    all_goals try simp only [decide_eq_true_eq, decide_eq_false_iff_not] at *
    all_goals try simp only [Key_eta, Share_eta, Journey_eta, Batch_eta, FieldT_eta, OpB_eta, Product_eta, Item_eta, Delta_eta, Elem_eta, Rule_eta, Do10_eta, Ask_eta, Key_beq, Share_beq, Journey_beq, FieldT_beq, Product_beq, Item_beq, Do10_beq, Ask_beq, toNat0, toNat1, toNat2, toNat3, toNat4, toNat5, toNat6, toNat7, toNat8, toNat9, toNat10, toNat11, toNat12, toNat13, toNat14, toNat15, toNat16, toNat17, toNat18, toNat19, iA, iOf, atS, rwA, castK, zK, true_and, and_true, decide_eq_true_eq, decide_eq_false_iff_not, beq_iff_eq, bne_iff_ne, beq_eq_false_iff_ne, bne_eq_false_iff_eq, Bool.not_eq_true', Bool.not_eq_false', Bool.not_eq_true, Bool.not_eq_false, Nat.succ_eq_add_one, Int.not_lt, Int.not_le, gt_iff_lt, ge_iff_le, show bytesS T_slices_Clone_byte_byte 25 = 1 from rfl] at *
    all_goals first
      | (refine Vc.mk ?_; simp only [List.length_nil]; omega)
      | (refine Res.mk ?_; exact List.nil_append _)
      | (refine Res.mk ?_; (have hl := ‹_ = true → _› ‹(bif false then !_ else _) = true›); first | exact (List.eq_nil_of_length_eq_zero hl).symm | (rw [hl, List.take_zero]))
  · exact h.fail.elim

def T_bits_Read : TT := [(3, ⟨.int .i64, 1, 8, [.int .i64 0], some .int⟩),
  (5, ⟨.int .u8, 1, 1, [.int .u8 0], some .u8⟩),
  (25, ⟨.slice 5, 1, 24, [.slice none 0 0], none⟩),
  (27, ⟨.int .i64, 1, 8, [.int .i64 0], some .int⟩),
  (138, ⟨.ptr, 1, 8, [.pointer none], none⟩),
  (200, ⟨.strct [(0, 25), (1, 3), (2, 27)], 3, 40, [.slice none 0 0, .int .i64 0, .int .i64 0], none⟩)]
theorem tOk_bits_Read : TOk Try.prog T_bits_Read := tOk_of (by kernel_rfl)
def sp_bits_Read : Spec := fun args hp => match args, hp with
  | [.slF 0], [(0, .row o_b .u8 b)] => .vc (b.length ≤ 1099511627776) (.ptr 2000 0) [(2000, some (.cells [.slF 2001, iv 0, iv 0])), (2001, some (.row true .u8 b))]
  | _, _ => .fail "bits_Read"
abbrev k_bits_Read : List (Option RK) := [some .u8]
def a_bits_Read : List SV → List (Nat × VB) → Anns := fun _ _ => []
set_option maxHeartbeats 20000000 in
theorem ok_bits_Read : GOk Try.prog 65 (lift k_bits_Read sp_bits_Read) := by
  refine pf_ok (T := T_bits_Read) (Γ := (113, lift k_slices_Clone_byte_byte sp_slices_Clone_byte_byte) :: []) tOk_bits_Read (gOks_cons ok_slices_Clone_byte_byte (gOks_nil _)) mixed Try.func65 (c := body Try.f65) (by kernel_rfl) (by kernel_rfl) k_bits_Read sp_bits_Read (by kernel_rfl) (by kernel_rfl) a_bits_Read ?_
  intro args hp s u hfit h
  unfold sp_bits_Read at h
  split at h
  · rename_i o_b b
    obtain ⟨hvc, rfl, rfl⟩ := h.vc
    clear h hfit
    change List Int at b
    conv => whnf
    repeat' (first
      | (refine And.intro ?_ ?_ <;> try conv => whnf)
      | (intro hh; first | (cases hh; done) | conv => whnf))
    all_goals try first | rfl | kernel_rfl
    all_goals try simp only [decide_eq_true_eq, decide_eq_false_iff_not] at *
    all_goals try simp only [Key_eta, Share_eta, Journey_eta, Batch_eta, FieldT_eta, OpB_eta, Product_eta, Item_eta, Delta_eta, Elem_eta, Rule_eta, Do10_eta, Ask_eta, Key_beq, Share_beq, Journey_beq, FieldT_beq, Product_beq, Item_beq, Do10_beq, Ask_beq, toNat0, toNat1, toNat2, toNat3, toNat4, toNat5, toNat6, toNat7, toNat8, toNat9, toNat10, toNat11, toNat12, toNat13, toNat14, toNat15, toNat16, toNat17, toNat18, toNat19, iA, iOf, atS, rwA, castK, zK, true_and, and_true, decide_eq_true_eq, decide_eq_false_iff_not, beq_iff_eq, bne_iff_ne, beq_eq_false_iff_ne, bne_eq_false_iff_eq, Bool.not_eq_true', Bool.not_eq_false', Bool.not_eq_true, Bool.not_eq_false, Nat.succ_eq_add_one, Int.not_lt, Int.not_le, gt_iff_lt, ge_iff_le, show bytesS T_bits_Read 25 = 1 from rfl] at *
    all_goals first | exact Vc.mk hvc | exact Res.mk trivial
  · exact h.fail.elim

def T_slices_Clone_byte_byteP : TT := [(4, ⟨.bool, 1, 1, [.bool false], some .bool⟩),
  (5, ⟨.int .u8, 1, 1, [.int .u8 0], some .u8⟩),
  (25, ⟨.slice 5, 1, 24, [.slice none 0 0], none⟩)]
theorem tOk_slices_Clone_byte_byteP : TOk Try.prog T_slices_Clone_byte_byteP := tOk_of (by kernel_rfl)
def sp_slices_Clone_byte_byteP : Spec := fun args hp => match args, hp with
  | [.slP 0 b_i b_n], [(0, .row o_b .u8 b)] => .vc (((b.drop b_i).take b_n).length ≤ 1099511627776) (.slF 2000) [(2000, some (.row true .u8 ((b.drop b_i).take b_n)))]
  | _, _ => .fail "slices_Clone_byte_byteP"
abbrev k_slices_Clone_byte_byteP : List (Option RK) := [some .u8]
def a_slices_Clone_byte_byteP : List SV → List (Nat × VB) → Anns := fun _ _ => []
set_option maxHeartbeats 20000000 in
theorem ok_slices_Clone_byte_byteP : GOk Try.prog 113 (lift k_slices_Clone_byte_byteP sp_slices_Clone_byte_byteP) := by
  refine pf_ok (T := T_slices_Clone_byte_byteP) (Γ := []) tOk_slices_Clone_byte_byteP (gOks_nil _) mixed Try.func113 (c := body Try.f113) (by kernel_rfl) (by kernel_rfl) k_slices_Clone_byte_byteP sp_slices_Clone_byte_byteP (by kernel_rfl) (by kernel_rfl) a_slices_Clone_byte_byteP ?_
  intro args hp s u hfit h
  unfold sp_slices_Clone_byte_byteP at h
  split at h
  · rename_i b_i b_n o_b b
    obtain ⟨hvc, rfl, rfl⟩ := h.vc
    clear h
    change List Int at b
    conv => whnf
    repeat' (first
      | (refine And.intro ?_ ?_ <;> try conv => whnf)
      | (intro hh; first | (cases hh; done) | conv => whnf))
    all_goals try first | rfl | kernel_rfl
    all_goals try simp only [decide_eq_true_eq, decide_eq_false_iff_not] at *
    all_goals try simp only [Key_eta, Share_eta, Journey_eta, Batch_eta, FieldT_eta, OpB_eta, Product_eta, Item_eta, Delta_eta, Elem_eta, Rule_eta, Do10_eta, Ask_eta, Key_beq, Share_beq, Journey_beq, FieldT_beq, Product_beq, Item_beq, Do10_beq, Ask_beq, toNat0, toNat1, toNat2, toNat3, toNat4, toNat5, toNat6, toNat7, toNat8, toNat9, toNat10, toNat11, toNat12, toNat13, toNat14, toNat15, toNat16, toNat17, toNat18, toNat19, iA, iOf, atS, rwA, castK, zK, true_and, and_true, decide_eq_true_eq, decide_eq_false_iff_not, beq_iff_eq, bne_iff_ne, beq_eq_false_iff_ne, bne_eq_false_iff_eq, Bool.not_eq_true', Bool.not_eq_false', Bool.not_eq_true, Bool.not_eq_false, Nat.succ_eq_add_one, Int.not_lt, Int.not_le, gt_iff_lt, ge_iff_le, show bytesS T_slices_Clone_byte_byteP 25 = 1 from rfl] at *
    all_goals first
      | (refine Vc.mk ?_; simp only [List.length_nil]; omega)
      | (refine Res.mk ?_; exact List.nil_append _)
      | (refine Res.mk ?_; (have hl := ‹_ = true → _› ‹(bif false then !_ else _) = true›); first | exact (List.eq_nil_of_length_eq_zero hl).symm | (rw [hl, List.take_zero]))
  · exact h.fail.elim

def T_bits_ReadP : TT := [(3, ⟨.int .i64, 1, 8, [.int .i64 0], some .int⟩),
  (5, ⟨.int .u8, 1, 1, [.int .u8 0], some .u8⟩),
  (25, ⟨.slice 5, 1, 24, [.slice none 0 0], none⟩),
  (27, ⟨.int .i64, 1, 8, [.int .i64 0], some .int⟩),
  (138, ⟨.ptr, 1, 8, [.pointer none], none⟩),
  (200, ⟨.strct [(0, 25), (1, 3), (2, 27)], 3, 40, [.slice none 0 0, .int .i64 0, .int .i64 0], none⟩)]
theorem tOk_bits_ReadP : TOk Try.prog T_bits_ReadP := tOk_of (by kernel_rfl)
def sp_bits_ReadP : Spec := fun args hp => match args, hp with
  | [.slP 0 b_i b_n], [(0, .row o_b .u8 b)] => .vc (((b.drop b_i).take b_n).length ≤ 1099511627776) (.ptr 2000 0) [(2000, some (.cells [.slF 2001, iv 0, iv 0])), (2001, some (.row true .u8 ((b.drop b_i).take b_n)))]
  | _, _ => .fail "bits_ReadP"
abbrev k_bits_ReadP : List (Option RK) := [some .u8]
def a_bits_ReadP : List SV → List (Nat × VB) → Anns := fun _ _ => []
set_option maxHeartbeats 20000000 in
theorem ok_bits_ReadP : GOk Try.prog 65 (lift k_bits_ReadP sp_bits_ReadP) := by
  refine pf_ok (T := T_bits_ReadP) (Γ := (113, lift k_slices_Clone_byte_byteP sp_slices_Clone_byte_byteP) :: []) tOk_bits_ReadP (gOks_cons ok_slices_Clone_byte_byteP (gOks_nil _)) mixed Try.func65 (c := body Try.f65) (by kernel_rfl) (by kernel_rfl) k_bits_ReadP sp_bits_ReadP (by kernel_rfl) (by kernel_rfl) a_bits_ReadP ?_
  intro args hp s u hfit h
  unfold sp_bits_ReadP at h
  split at h
  · rename_i b_i b_n o_b b
    obtain ⟨hvc, rfl, rfl⟩ := h.vc
    clear h
    change List Int at b
    conv => whnf
    repeat' (first
      | (refine And.intro ?_ ?_ <;> try conv => whnf)
      | (intro hh; first | (cases hh; done) | conv => whnf))
    all_goals try first | rfl | kernel_rfl
    all_goals try simp only [decide_eq_true_eq, decide_eq_false_iff_not] at *
    all_goals try simp only [Key_eta, Share_eta, Journey_eta, Batch_eta, FieldT_eta, OpB_eta, Product_eta, Item_eta, Delta_eta, Elem_eta, Rule_eta, Do10_eta, Ask_eta, Key_beq, Share_beq, Journey_beq, FieldT_beq, Product_beq, Item_beq, Do10_beq, Ask_beq, toNat0, toNat1, toNat2, toNat3, toNat4, toNat5, toNat6, toNat7, toNat8, toNat9, toNat10, toNat11, toNat12, toNat13, toNat14, toNat15, toNat16, toNat17, toNat18, toNat19, iA, iOf, atS, rwA, castK, zK, true_and, and_true, decide_eq_true_eq, decide_eq_false_iff_not, beq_iff_eq, bne_iff_ne, beq_eq_false_iff_ne, bne_eq_false_iff_eq, Bool.not_eq_true', Bool.not_eq_false', Bool.not_eq_true, Bool.not_eq_false, Nat.succ_eq_add_one, Int.not_lt, Int.not_le, gt_iff_lt, ge_iff_le, show bytesS T_bits_ReadP 25 = 1 from rfl] at *
    all_goals first | exact Vc.mk hvc | exact Res.mk trivial
  · exact h.fail.elim

def T_bits_Writer_Bytes : TT := [(3, ⟨.int .i64, 1, 8, [.int .i64 0], some .int⟩),
  (5, ⟨.int .u8, 1, 1, [.int .u8 0], some .u8⟩),
  (25, ⟨.slice 5, 1, 24, [.slice none 0 0], none⟩),
  (131, ⟨.strct [(0, 25), (1, 3)], 2, 32, [.slice none 0 0, .int .i64 0], none⟩),
  (195, ⟨.ptr, 1, 8, [.pointer none], none⟩)]
theorem tOk_bits_Writer_Bytes : TOk Try.prog T_bits_Writer_Bytes := tOk_of (by kernel_rfl)
def sp_bits_Writer_Bytes : Spec := fun args hp => match args, hp with
  | [.ptr 0 0], [(0, .cells [.slF 1, .val (.int .i64 w_n)]), (1, .row true .u8 w_b)] => .vc (w_b.length ≤ 1099511627776) (.slF 2000) [(2000, some (.row true .u8 w_b))]
  | _, _ => .fail "bits_Writer_Bytes"
abbrev k_bits_Writer_Bytes : List (Option RK) := [none]
def a_bits_Writer_Bytes : List SV → List (Nat × VB) → Anns := fun _ _ => []
set_option maxHeartbeats 20000000 in
theorem ok_bits_Writer_Bytes : GOk Try.prog 62 (lift k_bits_Writer_Bytes sp_bits_Writer_Bytes) := by
  refine pf_ok (T := T_bits_Writer_Bytes) (Γ := (113, lift k_slices_Clone_byte_byte sp_slices_Clone_byte_byte) :: []) tOk_bits_Writer_Bytes (gOks_cons ok_slices_Clone_byte_byte (gOks_nil _)) mixed Try.func62 (c := body Try.f62) (by kernel_rfl) (by kernel_rfl) k_bits_Writer_Bytes sp_bits_Writer_Bytes (by kernel_rfl) (by kernel_rfl) a_bits_Writer_Bytes ?_
  intro args hp s u hfit h
  unfold sp_bits_Writer_Bytes at h
  split at h
  · rename_i w_n w_b
    obtain ⟨hvc, rfl, rfl⟩ := h.vc
    clear h hfit
    conv => whnf
    repeat' (first
      | (refine And.intro ?_ ?_ <;> try conv => whnf)
      | (intro hh; first | (cases hh; done) | conv => whnf))
    all_goals try first | rfl | kernel_rfl
    all_goals try simp only [decide_eq_true_eq, decide_eq_false_iff_not] at *
    all_goals try simp only [Key_eta, Share_eta, Journey_eta, Batch_eta, FieldT_eta, OpB_eta, Product_eta, Item_eta, Delta_eta, Elem_eta, Rule_eta, Do10_eta, Ask_eta, Key_beq, Share_beq, Journey_beq, FieldT_beq, Product_beq, Item_beq, Do10_beq, Ask_beq, toNat0, toNat1, toNat2, toNat3, toNat4, toNat5, toNat6, toNat7, toNat8, toNat9, toNat10, toNat11, toNat12, toNat13, toNat14, toNat15, toNat16, toNat17, toNat18, toNat19, iA, iOf, atS, rwA, castK, zK, true_and, and_true, decide_eq_true_eq, decide_eq_false_iff_not, beq_iff_eq, bne_iff_ne, beq_eq_false_iff_ne, bne_eq_false_iff_eq, Bool.not_eq_true', Bool.not_eq_false', Bool.not_eq_true, Bool.not_eq_false, Nat.succ_eq_add_one, Int.not_lt, Int.not_le, gt_iff_lt, ge_iff_le, show bytesS T_bits_Writer_Bytes 25 = 1 from rfl] at *
    all_goals first | exact Vc.mk hvc | exact Res.mk trivial
  · exact h.fail.elim

def T_bits_Reader_Left : TT := [(3, ⟨.int .i64, 1, 8, [.int .i64 0], some .int⟩),
  (5, ⟨.int .u8, 1, 1, [.int .u8 0], some .u8⟩),
  (25, ⟨.slice 5, 1, 24, [.slice none 0 0], none⟩),
  (27, ⟨.int .i64, 1, 8, [.int .i64 0], some .int⟩),
  (138, ⟨.ptr, 1, 8, [.pointer none], none⟩),
  (200, ⟨.strct [(0, 25), (1, 3), (2, 27)], 3, 40, [.slice none 0 0, .int .i64 0, .int .i64 0], none⟩)]
theorem tOk_bits_Reader_Left : TOk Try.prog T_bits_Reader_Left := tOk_of (by kernel_rfl)
def sp_bits_Reader_Left : Spec := fun args hp => match args, hp with
  | [.ptr 0 0], [(0, .cells [.slF 1, .val (.int .i64 r_at), .val (.int .i64 r_e)]), (1, .row o_r_b .u8 r_b)] => .vc (r_b.length ≤ 1099511627776 ∧ 0 ≤ r_at ∧ r_at ≤ 8 * r_b.length) (iv (8 * r_b.length - r_at)) []
  | _, _ => .fail "bits_Reader_Left"
abbrev k_bits_Reader_Left : List (Option RK) := [none]
def a_bits_Reader_Left : List SV → List (Nat × VB) → Anns := fun _ _ => []
set_option maxHeartbeats 20000000 in
theorem ok_bits_Reader_Left : GOk Try.prog 68 (lift k_bits_Reader_Left sp_bits_Reader_Left) := by
  refine pf_ok (T := T_bits_Reader_Left) (Γ := []) tOk_bits_Reader_Left (gOks_nil _) mixed Try.func68 (c := body Try.f68) (by kernel_rfl) (by kernel_rfl) k_bits_Reader_Left sp_bits_Reader_Left (by kernel_rfl) (by kernel_rfl) a_bits_Reader_Left ?_
  intro args hp s u hfit h
  unfold sp_bits_Reader_Left at h
  split at h
  · rename_i r_at r_e o_r_b r_b
    obtain ⟨hvc, rfl, rfl⟩ := h.vc
    clear h hfit
    conv => whnf
    repeat' (first
      | (refine And.intro ?_ ?_ <;> try conv => whnf)
      | (intro hh; first | (cases hh; done) | conv => whnf))
    all_goals try first | rfl | kernel_rfl
    all_goals try simp only [decide_eq_true_eq, decide_eq_false_iff_not] at *
    all_goals try simp only [Key_eta, Share_eta, Journey_eta, Batch_eta, FieldT_eta, OpB_eta, Product_eta, Item_eta, Delta_eta, Elem_eta, Rule_eta, Do10_eta, Ask_eta, Key_beq, Share_beq, Journey_beq, FieldT_beq, Product_beq, Item_beq, Do10_beq, Ask_beq, toNat0, toNat1, toNat2, toNat3, toNat4, toNat5, toNat6, toNat7, toNat8, toNat9, toNat10, toNat11, toNat12, toNat13, toNat14, toNat15, toNat16, toNat17, toNat18, toNat19, iA, iOf, atS, rwA, castK, zK, true_and, and_true, decide_eq_true_eq, decide_eq_false_iff_not, beq_iff_eq, bne_iff_ne, beq_eq_false_iff_ne, bne_eq_false_iff_eq, Bool.not_eq_true', Bool.not_eq_false', Bool.not_eq_true, Bool.not_eq_false, Nat.succ_eq_add_one, Int.not_lt, Int.not_le, gt_iff_lt, ge_iff_le, show bytesS T_bits_Reader_Left 25 = 1 from rfl] at *
    refine Res.mk ?_
    rw [wrap64 (n := 8 * _) (by omega) (by omega), wrap64 (by omega) (by omega)]
  · exact h.fail.elim

def T_bits_Reader_Take : TT := [(3, ⟨.int .i64, 1, 8, [.int .i64 0], some .int⟩),
  (4, ⟨.bool, 1, 1, [.bool false], some .bool⟩),
  (5, ⟨.int .u8, 1, 1, [.int .u8 0], some .u8⟩),
  (25, ⟨.slice 5, 1, 24, [.slice none 0 0], none⟩),
  (27, ⟨.int .i64, 1, 8, [.int .i64 0], some .int⟩),
  (41, ⟨.slice 3, 1, 24, [.slice none 0 0], none⟩),
  (138, ⟨.ptr, 1, 8, [.pointer none], none⟩),
  (200, ⟨.strct [(0, 25), (1, 3), (2, 27)], 3, 40, [.slice none 0 0, .int .i64 0, .int .i64 0], none⟩)]
theorem tOk_bits_Reader_Take : TOk Try.prog T_bits_Reader_Take := tOk_of (by kernel_rfl)
def sp_bits_Reader_Take : Spec := fun args hp => match args, hp with
  | [.ptr 0 0, .slF 1], [(0, .cells [.slF 2, .val (.int .i64 r_at), .val (.int .i64 r_e)]), (1, .row o_ws .int ws), (2, .row o_r_b .u8 r_b)] => .vc (r_at % 8 = 0 ∧ 0 ≤ r_at ∧ r_at ≤ 8 * r_b.length ∧ (∀ w ∈ ws, w % 8 = 0) ∧ isB r_b ∧ r_b.length ≤ 1099511627776 ∧ ws.length ≤ 1099511627776) (.slF 2000) [(0, some (.cells [.slF 2, iv (takeAt r_b.length r_at r_e ws), iv (takeE r_b.length r_at r_e ws)])), (2000, some (.row true .int (takeN r_b r_at r_e ws)))]
  | _, _ => .fail "bits_Reader_Take"
abbrev k_bits_Reader_Take : List (Option RK) := [none, some .int]
def a_bits_Reader_Take : List SV → List (Nat × VB) → Anns := fun args hp => match args, hp with
  | [.ptr 0 0, .slF 1], [(0, .cells [.slF 2, .val (.int .i64 r_at), .val (.int .i64 r_e)]), (1, .row o_ws .int ws), (2, .row o_r_b .u8 r_b)] => [(5, fun S => .inv [] [] [] fun ids vs rs => { cars := [.i 19 .i64, .i 5 .i64], inv := fun ((i, s, _) : Int × Int × Unit) => IT1 ws i s, mu := fun ((i, s, _) : Int × Int × Unit) => ws.length - i.toNat }),
    (17, fun S => .inv [pOf (S.get 0)] [] [] fun ids vs rs => { cars := [.i 45 .i64, .r 8 true .int, .blk (atN ids 0) [.fix (.slF 2), .i .i64, .fix (iv r_e)]], inv := fun ((i, ns, (_, at_, _, _), _) : Int × List Int × (Unit × Int × Unit × Unit) × Unit) => IT2 r_b r_at ws i ns at_, mu := fun ((i, ns, (_, at_, _, _), _) : Int × List Int × (Unit × Int × Unit × Unit) × Unit) => ws.length - i.toNat }),
    (21, fun S => .inv [pOf (S.get 0)] [S.get 45] [] fun ids vs rs => { cars := [.i 50 .i64, .i 11 .i64, .blk (atN ids 0) [.fix (.slF 2), .i .i64, .fix (iv r_e)]], inv := fun ((i, n, (_, at_, _, _), _) : Int × Int × (Unit × Int × Unit × Unit) × Unit) => IT3 ((r_b.drop ((r_at + (ws.take ((iA vs 0)).toNat).sum) / 8).toNat).take ((ws.getD ((iA vs 0)).toNat 0).toNat / 8)) (r_at + (ws.take ((iA vs 0)).toNat).sum) i n at_, mu := fun ((i, n, (_, at_, _, _), _) : Int × Int × (Unit × Int × Unit × Unit) × Unit) => (ws.getD ((iA vs 0)).toNat 0 - i).toNat })]
  | _, _ => []
set_option maxHeartbeats 20000000 in
theorem ok_bits_Reader_Take : GOk Try.prog 66 (lift k_bits_Reader_Take sp_bits_Reader_Take) := by
  refine pf_ok (T := T_bits_Reader_Take) (Γ := (68, lift k_bits_Reader_Left sp_bits_Reader_Left) :: []) tOk_bits_Reader_Take (gOks_cons ok_bits_Reader_Left (gOks_nil _)) mixed Try.func66 (c := body Try.f66) (by kernel_rfl) (by kernel_rfl) k_bits_Reader_Take sp_bits_Reader_Take (by kernel_rfl) (by kernel_rfl) a_bits_Reader_Take ?_
  intro args hp s u hfit h
  unfold sp_bits_Reader_Take at h
  split at h
  · rename_i r_at r_e o_ws ws o_r_b r_b
    obtain ⟨hvc, rfl, rfl⟩ := h.vc
    clear h hfit
    change List Int at ws
    conv => whnf
    repeat' (first
      | (refine And.intro ?_ ?_ <;> try conv => whnf)
      | (intro hh; first | (cases hh; done) | conv => whnf))
    all_goals try first | rfl | kernel_rfl
    all_goals try simp only [decide_eq_true_eq, decide_eq_false_iff_not] at *
    all_goals try simp only [Key_eta, Share_eta, Journey_eta, Batch_eta, FieldT_eta, OpB_eta, Product_eta, Item_eta, Delta_eta, Elem_eta, Rule_eta, Do10_eta, Ask_eta, Key_beq, Share_beq, Journey_beq, FieldT_beq, Product_beq, Item_beq, Do10_beq, Ask_beq, toNat0, toNat1, toNat2, toNat3, toNat4, toNat5, toNat6, toNat7, toNat8, toNat9, toNat10, toNat11, toNat12, toNat13, toNat14, toNat15, toNat16, toNat17, toNat18, toNat19, iA, iOf, atS, rwA, castK, zK, true_and, and_true, decide_eq_true_eq, decide_eq_false_iff_not, beq_iff_eq, bne_iff_ne, beq_eq_false_iff_ne, bne_eq_false_iff_eq, Bool.not_eq_true', Bool.not_eq_false', Bool.not_eq_true, Bool.not_eq_false, Nat.succ_eq_add_one, Int.not_lt, Int.not_le, gt_iff_lt, ge_iff_le, show bytesS T_bits_Reader_Take 25 = 1 from rfl, show bytesS T_bits_Reader_Take 41 = 8 from rfl] at *
    all_goals obtain ⟨h8, ha0, ha1, hw8, hB, hL, hwl⟩ := hvc
    all_goals try (
      obtain ⟨j1, hj1, rfl, ho1, rfl⟩ := ‹IT1 _ _ _›
      have hs1 := okW_sum ho1
      have hlt1 : (ws.take j1).length ≤ ws.length := by rw [List.length_take]; omega)
    all_goals try (
      obtain ⟨j, hj, rfl, rfl, rfl⟩ := ‹IT2 _ _ _ _ _ _›
      obtain rfl : j1 = ws.length := by omega
      rw [List.take_length] at *)
    all_goals try (
      have hj' : j < ws.length := by omega
      (try simp only [Int.toNat_natCast] at *)
      obtain ⟨p, m, e1, e2, hm1, hm2, hp, ep, el, eg⟩ := take_at h8 ha0 ho1 hw8 (by omega) hj'
      have e3 : ((r_at + (ws.take j).sum) / 8).toNat = p := by omega
      have e4 : (ws.getD j 0).toNat / 8 = m := by omega)
    all_goals try (
      have hIT := ‹IT3 _ _ _ _ _›
      rw [e3, e4, e1] at hIT
      obtain ⟨k, hk, rfl, rfl, rfl⟩ := hIT
      rw [el] at hk
      have t1 : (((8 * p : Nat) : Int) + k).tdiv 8 = ((p + k / 8 : Nat) : Int) := by rw [Int.tdiv_eq_ediv_of_nonneg (by omega)]; omega
      have t2 : (((8 * p : Nat) : Int) + k).tmod 8 = ((k % 8 : Nat) : Int) := by rw [Int.tmod_eq_emod_of_nonneg (by omega)]; omega
      rw [t1, t2] at *)
    all_goals try (refine Vc.mk ?_; (try simp (disch := omega) only [wrap64, List.length_append, List.length_cons, List.length_nil, Int.toNat_natCast, rd_length, List.length_take] at *); omega)
    · exact Res.mk (by simp [takeN, takeE, takeAt, *])
    · exact ⟨⟨0, Nat.zero_le _, rfl, rfl, rfl⟩⟩
    · have hf : okW ws = false := by
        rw [← Bool.not_eq_true]
        intro hc
        have := okW_get hc (j := j1) (by omega)
        rw [Int.toNat_natCast] at *
        omega
      exact Res.mk (by simp [takeN, takeE, takeAt, hf, *])
    · have hf : okW ws = false := by
        rw [← Bool.not_eq_true]
        intro hc
        have := okW_get hc (j := j1) (by omega)
        rw [Int.toNat_natCast] at *
        omega
      exact Res.mk (by simp [takeN, takeE, takeAt, hf, *])
    · have hlt : j1 < ws.length := by omega
      rw [Int.toNat_natCast] at *
      refine ⟨⟨j1 + 1, by omega, by rw [wrap64] <;> omega, ?_, ?_⟩, by rw [wrap64] <;> omega⟩
      · rw [okW_take hlt, ho1]
        simp only [Bool.true_and, Bool.and_eq_true, decide_eq_true_eq]
        omega
      · rw [sum_take hlt, wrap64] <;> omega
    · obtain rfl : j1 = ws.length := by omega
      rw [List.take_length] at *
      exact Res.mk (by simp [takeN, takeE, takeAt, ho1, *])
    · obtain rfl : j1 = ws.length := by omega
      rw [List.take_length] at *
      exact ⟨⟨0, Nat.zero_le _, rfl, rfl, by simp⟩⟩
    · rw [e3, e4, e1]
      refine ⟨⟨0, Nat.zero_le _, rfl, ?_, by simp⟩⟩
      have hN := num_lt (l := (r_b.drop p).take m) ((hB.drop p).take m)
      rw [el] at hN
      rw [el, Nat.sub_zero]
      exact (Int.ediv_eq_zero_of_lt hN.1 hN.2).symm
    · have hl4 : ((r_b.drop p).take m).length ≤ 4 := by omega
      have hkm : k < 8 * m := by omega
      rw [e3, e4, e1]
      refine ⟨⟨k + 1, by omega, by rw [wrap64] <;> omega, ?_, by rw [wrap64] <;> omega⟩, by rw [wrap64] <;> omega⟩
      have := take_bit ((hB.drop p).take m) hl4 (k := k) (by omega) (x := r_b.getD (IntKind.i64.wrap ((p + k / 8 : Nat) : Int)).toNat 0) (by rw [wrap64 (by omega) (by omega), Int.toNat_natCast, eg _ (by omega)]) (sh := (IntKind.i64.wrap (7 - ((k % 8 : Nat) : Int))).toNat) (by rw [wrap64 (by omega) (by omega)]; omega)
      rw [el] at this
      rw [el]
      exact this
    · have hkm : k = 8 * m := by omega
      subst hkm
      refine ⟨⟨j + 1, by omega, by rw [wrap64] <;> omega, ?_, ?_⟩, by rw [wrap64] <;> omega⟩
      · rw [take_succ hj', rd_snoc, List.drop_drop, e4, ← ep, el, Nat.sub_self]
        simp
      · rw [sum_take hj']; omega
    · obtain rfl : j = ws.length := by omega
      rw [List.take_length] at *
      exact Res.mk (by simp [takeN, takeE, takeAt, ho1, show ¬ 8 * (r_b.length : Int) - r_at < ws.sum by omega, *])
  · exact h.fail.elim

end Go.Proofs.Ythbmllekbbfobaa.Sx
