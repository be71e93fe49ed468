import Derived.Test.YthbmllekbbfobaaProg
import Derived.Test.YthbmllekbbfobaaSxU
import Derived.IntWalk
import Derived.Test.YthbmllekbbfobaaR6r
/-! rules, forms -/
namespace Go.Proofs.Ythbmllekbbfobaa.Sx
open Go
set_option linter.unusedVariables false
set_option linter.unusedSimpArgs false
set_option maxRecDepth 100000

def T_rules_Read : TT := [(3, ⟨.int .i64, 1, 8, [.int .i64 0], some .int⟩),
  (4, ⟨.bool, 1, 1, [.bool false], some .bool⟩),
  (5, ⟨.int .u8, 1, 1, [.int .u8 0], some .u8⟩),
  (25, ⟨.slice 5, 1, 24, [.slice none 0 0], none⟩),
  (27, ⟨.int .i64, 1, 8, [.int .i64 0], some .int⟩),
  (41, ⟨.slice 3, 1, 24, [.slice none 0 0], none⟩),
  (88, ⟨.strct [(0, 3), (1, 3), (2, 41)], 3, 40, [.int .i64 0, .int .i64 0, .slice none 0 0], some .rule⟩),
  (138, ⟨.ptr, 1, 8, [.pointer none], none⟩)]
theorem tOk_rules_Read : TOk Try.prog T_rules_Read := tOk_of (by kernel_rfl)
def sp_rules_Read : Spec := fun args hp => match args, hp with
  | [.slF 0], [(0, .row o_b .u8 b)] => .vc (isB b ∧ b.length ≤ 1048576) (.tup [.agg [iv (readR b).owner, iv (readR b).op, .slF 2000], iv (readE b)]) [(2000, some (.row true .int (readR b).weights))]
  | _, _ => .fail "rules_Read"
abbrev k_rules_Read : List (Option RK) := [some .u8]
def a_rules_Read : List SV → List (Nat × VB) → Anns := fun args hp => match args, hp with
  | [.slF 0], [(0, .row o_b .u8 b)] => [(9, fun S => .inv [pOf (S.get 4), pOf (S.get 6)] [cellOf S (pOf (S.get 4)) 0, cellOf S (pOf (S.get 6)) 0, cellOf S (pOf (S.get 6)) 1] [] fun ids vs rs => { cars := [.i 45 .i64, .blk (atN ids 0) [.fix ((atS vs 0)), .i .i64, .i .i64], .blk (atN ids 1) [.fix ((atS vs 1)), .fix ((atS vs 2)), .r true .int]], inv := fun ((i, (_, at_, e, _), (_, _, ws, _), _) : Int × (Unit × Int × Int × Unit) × (Unit × Unit × List Int × Unit) × Unit) => IRd b i at_ e ws, mu := fun ((i, (_, at_, e, _), (_, _, ws, _), _) : Int × (Unit × Int × Int × Unit) × (Unit × Unit × List Int × Unit) × Unit) => (b.getD 2 0 - i).toNat })]
  | _, _ => []
set_option maxHeartbeats 20000000 in
theorem ok_rules_Read : GOk Try.prog 54 (lift k_rules_Read sp_rules_Read) := by
  refine pf_ok (T := T_rules_Read) (Γ := (65, lift k_bits_Read sp_bits_Read) :: (66, lift k_bits_Reader_Take sp_bits_Reader_Take) :: (68, lift k_bits_Reader_Left sp_bits_Reader_Left) :: (99, lift k_rules_right sp_rules_right) :: []) tOk_rules_Read (gOks_cons ok_bits_Read (gOks_cons ok_bits_Reader_Take (gOks_cons ok_bits_Reader_Left (gOks_cons ok_rules_right (gOks_nil _))))) mixed Try.func54 (c := body Try.f54) (by kernel_rfl) (by kernel_rfl) k_rules_Read sp_rules_Read (by kernel_rfl) (by kernel_rfl) a_rules_Read ?_
  intro args hp s u hfit h
  unfold sp_rules_Read at h
  split at h
  · rename_i o_b b
    obtain ⟨hvc, rfl, rfl⟩ := h.vc
    clear h hfit
    change List Int at b
    conv => whnf
    repeat' (first
      | (refine And.intro ?_ ?_ <;> try conv => whnf)
      | (intro hh; first | (cases hh; done) | conv => whnf))
    all_goals try first | rfl | kernel_rfl
    all_goals try simp only [decide_eq_true_eq, decide_eq_false_iff_not] at *
    all_goals try simp only [Key_eta, Share_eta, Journey_eta, Batch_eta, FieldT_eta, OpB_eta, Product_eta, Item_eta, Delta_eta, Elem_eta, Rule_eta, Do10_eta, Ask_eta, Key_beq, Share_beq, Journey_beq, FieldT_beq, Product_beq, Item_beq, Do10_beq, Ask_beq, toNat0, toNat1, toNat2, toNat3, toNat4, toNat5, toNat6, toNat7, toNat8, toNat9, toNat10, toNat11, toNat12, toNat13, toNat14, toNat15, toNat16, toNat17, toNat18, toNat19, iA, iOf, atS, rwA, castK, zK, true_and, and_true, decide_eq_true_eq, decide_eq_false_iff_not, beq_iff_eq, bne_iff_ne, beq_eq_false_iff_ne, bne_eq_false_iff_eq, Bool.not_eq_true', Bool.not_eq_false', Bool.not_eq_true, Bool.not_eq_false, Nat.succ_eq_add_one, Int.not_lt, Int.not_le, gt_iff_lt, ge_iff_le, show bytesS T_rules_Read 25 = 1 from rfl, show bytesS T_rules_Read 41 = 8 from rfl] at *
    all_goals obtain ⟨hB, hL⟩ := hvc
    all_goals rcases Nat.lt_or_ge b.length 3 with h3 | h3
    all_goals try (
      have ht := take_short h3
      simp only [ht] at *)
    all_goals try (
      have ht := take_head h3
      obtain ⟨t1, t2, t3⟩ := ht
      have hb2 := hB _ (mem_getD (d := (0 : Int)) (show 2 < b.length by omega))
      have w1 : IntKind.i64.wrap (16 * b.getD 2 0) = 16 * b.getD 2 0 := wrap64 (by omega) (by omega)
      simp only [t1, t2, t3, w1, List.getD_cons_zero, List.getD_cons_succ, List.length_cons, List.length_nil] at *)
    all_goals try (exfalso; simp only [List.length_nil] at *; first | contradiction | omega | (simp_all; done))
    all_goals try (
      have hex := ‹IRd _ _ _ _ _›
      obtain ⟨k, rfl, hk, rfl, rfl, rfl⟩ := hex)
    all_goals try (
      have ht := take16 (b := b) (k := k) (n := (b.getD 2 0).toNat) (by omega) (by omega) rfl
      obtain ⟨u1, u2, u3⟩ := ht
      simp only [u1, u2, u3] at *)
    all_goals try (refine Vc.mk ?_; first | omega | (refine ⟨?_, ?_, ?_⟩ <;> omega))
    · exact Vc.mk ⟨by decide, by omega, by omega, by simp, hB, by omega, by simp⟩
    · exact Vc.mk ⟨by decide, by omega, by omega, by simp, hB, by omega, by omega⟩
    all_goals try (
      have h := readE_short (b := b) (by omega)
      rw [h.1, h.2]
      exact Res.mk ⟨rfl, rfl, rfl, rfl⟩)
    all_goals try (
      exfalso
      simp at *
      done)
    · have h := readE_long (b := b) h3 (by omega)
      rw [h.1, h.2]
      exact Res.mk ⟨rfl, rfl, rfl, rfl⟩
    · exact ⟨⟨0, rfl, by omega, rfl, rfl, rfl⟩⟩
    · exact Vc.mk ⟨by omega, by omega, by omega, by simp, hB, by omega, by omega⟩
    · exact Vc.mk (by rw [wds_length]; simp only [List.length_cons, List.length_nil]; omega)
    · refine ⟨⟨k + 1, by rw [wrap64] <;> omega, by omega, rfl, rfl, wds_snoc.symm⟩, by rw [wrap64] <;> omega⟩
    · exact Vc.mk ⟨by rw [wds_length]; omega, wds_64 fun y hy => hB y (List.mem_of_mem_drop hy)⟩
    · have h := readE_no (b := b) (k := k) h3 (by omega) (by omega) (by assumption)
      rw [h.1, h.2]
      exact Res.mk ⟨rfl, rfl, rfl, rfl⟩
    · have h := readE_ok (b := b) (k := k) h3 (by omega) (by omega) (by assumption)
      rw [h.1, h.2]
      exact Res.mk ⟨rfl, rfl, rfl, rfl⟩
  · exact h.fail.elim

def T_fareboxref21_Read : TT := [(3, ⟨.int .i64, 1, 8, [.int .i64 0], some .int⟩),
  (4, ⟨.bool, 1, 1, [.bool false], some .bool⟩),
  (5, ⟨.int .u8, 1, 1, [.int .u8 0], some .u8⟩),
  (25, ⟨.slice 5, 1, 24, [.slice none 0 0], none⟩),
  (41, ⟨.slice 3, 1, 24, [.slice none 0 0], none⟩),
  (88, ⟨.strct [(0, 3), (1, 3), (2, 41)], 3, 40, [.int .i64 0, .int .i64 0, .slice none 0 0], some .rule⟩)]
theorem tOk_fareboxref21_Read : TOk Try.prog T_fareboxref21_Read := tOk_of (by kernel_rfl)
def sp_fareboxref21_Read : Spec := fun args hp => match args, hp with
  | [.slF 0], [(0, .row o_b .u8 b)] => .vc (isB b ∧ b.length ≤ 1048576) (.tup [.agg [iv (readR b).owner, iv (readR b).op, .slF 2000], iv (readE b)]) [(2000, some (.row true .int (readR b).weights))]
  | _, _ => .fail "fareboxref21_Read"
abbrev k_fareboxref21_Read : List (Option RK) := [some .u8]
def a_fareboxref21_Read : List SV → List (Nat × VB) → Anns := fun args hp => match args, hp with
  | [.slF 0], [(0, .row o_b .u8 b)] => [(7, fun S => .inv [pOf (S.get 4)] [cellOf S (pOf (S.get 4)) 0, cellOf S (pOf (S.get 4)) 1] [] fun ids vs rs => { cars := [.i 5 .i64, .blk (atN ids 0) [.fix ((atS vs 0)), .fix ((atS vs 1)), .r true .int]], inv := fun ((i, (_, _, ws, _), _) : Int × (Unit × Unit × List Int × Unit) × Unit) => IRr b i ws, mu := fun ((i, (_, _, ws, _), _) : Int × (Unit × Unit × List Int × Unit) × Unit) => b.length - i.toNat })]
  | _, _ => []
set_option maxHeartbeats 20000000 in
theorem ok_fareboxref21_Read : GOk Try.prog 56 (lift k_fareboxref21_Read sp_fareboxref21_Read) := by
  refine pf_ok (T := T_fareboxref21_Read) (Γ := (46, lift k_fareboxref21_Right sp_fareboxref21_Right) :: []) tOk_fareboxref21_Read (gOks_cons ok_fareboxref21_Right (gOks_nil _)) mixed Try.func56 (c := body Try.f56) (by kernel_rfl) (by kernel_rfl) k_fareboxref21_Read sp_fareboxref21_Read (by kernel_rfl) (by kernel_rfl) a_fareboxref21_Read ?_
  intro args hp s u hfit h
  unfold sp_fareboxref21_Read at h
  split at h
  · rename_i o_b b
    obtain ⟨hvc, rfl, rfl⟩ := h.vc
    clear h hfit
    change List Int at b
    conv => whnf
    repeat' (first
      | (refine And.intro ?_ ?_ <;> try conv => whnf)
      | (intro hh; first | (cases hh; done) | conv => whnf))
    all_goals try first | rfl | kernel_rfl
    all_goals try simp only [decide_eq_true_eq, decide_eq_false_iff_not] at *
    all_goals try simp only [Key_eta, Share_eta, Journey_eta, Batch_eta, FieldT_eta, OpB_eta, Product_eta, Item_eta, Delta_eta, Elem_eta, Rule_eta, Do10_eta, Ask_eta, Key_beq, Share_beq, Journey_beq, FieldT_beq, Product_beq, Item_beq, Do10_beq, Ask_beq, toNat0, toNat1, toNat2, toNat3, toNat4, toNat5, toNat6, toNat7, toNat8, toNat9, toNat10, toNat11, toNat12, toNat13, toNat14, toNat15, toNat16, toNat17, toNat18, toNat19, iA, iOf, atS, rwA, castK, zK, true_and, and_true, decide_eq_true_eq, decide_eq_false_iff_not, beq_iff_eq, bne_iff_ne, beq_eq_false_iff_ne, bne_eq_false_iff_eq, Bool.not_eq_true', Bool.not_eq_false', Bool.not_eq_true, Bool.not_eq_false, Nat.succ_eq_add_one, Int.not_lt, Int.not_le, gt_iff_lt, ge_iff_le, show bytesS T_fareboxref21_Read 25 = 1 from rfl, show bytesS T_fareboxref21_Read 41 = 8 from rfl] at *
    all_goals obtain ⟨hB, hL⟩ := hvc
    all_goals rcases Nat.lt_or_ge b.length 3 with h3 | h3
    all_goals try (exfalso; omega)
    all_goals try (
      have h := readE_short (b := b) (.inl h3)
      rw [h.1, h.2]
      exact Res.mk ⟨rfl, rfl, rfl, rfl⟩)
    all_goals try (
      have hb2 := hB _ (mem_getD (d := (0 : Int)) (show 2 < b.length by omega))
      have hb0 := hB _ (mem_getD (d := (0 : Int)) (show 0 < b.length by omega))
      have hb1 := hB _ (mem_getD (d := (0 : Int)) (show 1 < b.length by omega))
      have w0 : IntKind.i64.wrap (b.getD 2 0) = b.getD 2 0 := wrap64 (by omega) (by omega)
      have w1 : IntKind.i64.wrap (2 * b.getD 2 0) = 2 * b.getD 2 0 := wrap64 (by omega) (by omega)
      have w2 : IntKind.i64.wrap (3 + 2 * b.getD 2 0) = 3 + 2 * b.getD 2 0 := wrap64 (by omega) (by omega)
      have w3 : IntKind.i64.wrap (b.getD 0 0) = b.getD 0 0 := wrap64 (by omega) (by omega)
      have w4 : IntKind.i64.wrap (b.getD 1 0) = b.getD 1 0 := wrap64 (by omega) (by omega)
      simp only [w0, w1, w2, w3, w4] at *)
    all_goals try (
      have hex := ‹IRr _ _ _›
      obtain ⟨k, rfl, hk, rfl⟩ := hex)
    all_goals try simp only [Int.toNat_natCast] at *
    all_goals try (
      have wl := wds_length k (b.drop 3)
      have w5 : IntKind.i64.wrap (((3 + 2 * k : Nat) : Int) + 1) = ((3 + 2 * k + 1 : Nat) : Int) := by rw [wrap64 (by omega) (by omega)]; omega
      have w6 : IntKind.i64.wrap (((3 + 2 * k : Nat) : Int) + 2) = ((3 + 2 * (k + 1) : Nat) : Int) := by rw [wrap64 (by omega) (by omega)]; omega
      simp only [w5, w6, Int.toNat_natCast] at *)
    all_goals try (refine Vc.mk ?_; first | omega | (simp only [List.length_cons, List.length_nil]; omega))
    all_goals try (
      have h := readE_short (b := b) (.inr (by omega))
      rw [h.1, h.2]
      exact Res.mk ⟨rfl, rfl, rfl, rfl⟩)
    · have h := readE_long (b := b) h3 (by omega)
      rw [h.1, h.2]
      exact Res.mk ⟨rfl, rfl, rfl, rfl⟩
    · exact ⟨⟨0, rfl, by omega, rfl⟩⟩
    · have hx := hB _ (mem_getD (d := (0 : Int)) (show 3 + 2 * k < b.length by omega))
      have hy := hB _ (mem_getD (d := (0 : Int)) (show 3 + 2 * k + 1 < b.length by omega))
      have hn := num_two (b := b) (j := 3 + 2 * k) (by omega)
      refine ⟨⟨k + 1, rfl, by omega, ?_⟩, by omega⟩
      rw [wds_snoc, List.drop_drop, hn, wrap64 (n := b.getD (3 + 2 * k) 0) (by omega) (by omega), wrap64 (n := b.getD (3 + 2 * k + 1) 0) (by omega) (by omega), wrap64 (n := _ * 256) (by omega) (by omega), wrap64 (by omega) (by omega), Int.mul_comm]
    · exact Vc.mk ⟨by omega, by omega, wds_64 fun y hy => hB y (List.mem_of_mem_drop hy)⟩
    · have h := readE_no (b := b) (k := k) h3 (by omega) (by omega) (by assumption)
      rw [h.1, h.2]
      exact Res.mk ⟨rfl, rfl, rfl, rfl⟩
    · have h := readE_ok (b := b) (k := k) h3 (by omega) (by omega) (by assumption)
      rw [h.1, h.2]
      exact Res.mk ⟨rfl, rfl, rfl, rfl⟩
  · exact h.fail.elim

def T_fareboxref21_Form : TT := [(3, ⟨.int .i64, 1, 8, [.int .i64 0], some .int⟩),
  (4, ⟨.bool, 1, 1, [.bool false], some .bool⟩),
  (5, ⟨.int .u8, 1, 1, [.int .u8 0], some .u8⟩),
  (25, ⟨.slice 5, 1, 24, [.slice none 0 0], none⟩),
  (41, ⟨.slice 3, 1, 24, [.slice none 0 0], none⟩),
  (88, ⟨.strct [(0, 3), (1, 3), (2, 41)], 3, 40, [.int .i64 0, .int .i64 0, .slice none 0 0], some .rule⟩)]
theorem tOk_fareboxref21_Form : TOk Try.prog T_fareboxref21_Form := tOk_of (by kernel_rfl)
def sp_fareboxref21_Form : Spec := fun args hp => match args, hp with
  | [.agg [.val (.int .i64 r_owner), .val (.int .i64 r_op), .slF 0]], [(0, .row o_r_weights .int r_weights)] => .vc (rightR (⟨r_owner, r_op, r_weights⟩ : Rule) 4 = true) (.slF 2000) [(2000, some (.row true .u8 (formR (⟨r_owner, r_op, r_weights⟩ : Rule))))]
  | _, _ => .fail "fareboxref21_Form"
abbrev k_fareboxref21_Form : List (Option RK) := [none]
def a_fareboxref21_Form : List SV → List (Nat × VB) → Anns := fun args hp => match args, hp with
  | [.agg [.val (.int .i64 r_owner), .val (.int .i64 r_op), .slF 0]], [(0, .row o_r_weights .int r_weights)] => [(3, fun S => .inv [] [] [] fun ids vs rs => { cars := [.i 4 .i64, .r 3 true .u8], inv := fun ((i, out, _) : Int × List Int × Unit) => IFr (⟨r_owner, r_op, r_weights⟩ : Rule) i out, mu := fun ((i, out, _) : Int × List Int × Unit) => r_weights.length - i.toNat })]
  | _, _ => []
set_option maxHeartbeats 20000000 in
theorem ok_fareboxref21_Form : GOk Try.prog 55 (lift k_fareboxref21_Form sp_fareboxref21_Form) := by
  refine pf_ok (T := T_fareboxref21_Form) (Γ := []) tOk_fareboxref21_Form (gOks_nil _) mixed Try.func55 (c := body Try.f55) (by kernel_rfl) (by kernel_rfl) k_fareboxref21_Form sp_fareboxref21_Form (by kernel_rfl) (by kernel_rfl) a_fareboxref21_Form ?_
  intro args hp s u hfit h
  unfold sp_fareboxref21_Form at h
  split at h
  · rename_i r_owner r_op o_r_weights r_weights
    obtain ⟨hvc, rfl, rfl⟩ := h.vc
    clear h hfit
    conv => whnf
    repeat' (first
      | (refine And.intro ?_ ?_ <;> try conv => whnf)
      | (intro hh; first | (cases hh; done) | conv => whnf))
    all_goals try first | rfl | kernel_rfl
    all_goals try simp only [decide_eq_true_eq, decide_eq_false_iff_not] at *
    all_goals try simp only [Key_eta, Share_eta, Journey_eta, Batch_eta, FieldT_eta, OpB_eta, Product_eta, Item_eta, Delta_eta, Elem_eta, Rule_eta, Do10_eta, Ask_eta, Key_beq, Share_beq, Journey_beq, FieldT_beq, Product_beq, Item_beq, Do10_beq, Ask_beq, toNat0, toNat1, toNat2, toNat3, toNat4, toNat5, toNat6, toNat7, toNat8, toNat9, toNat10, toNat11, toNat12, toNat13, toNat14, toNat15, toNat16, toNat17, toNat18, toNat19, iA, iOf, atS, rwA, castK, zK, true_and, and_true, decide_eq_true_eq, decide_eq_false_iff_not, beq_iff_eq, bne_iff_ne, beq_eq_false_iff_ne, bne_eq_false_iff_eq, Bool.not_eq_true', Bool.not_eq_false', Bool.not_eq_true, Bool.not_eq_false, Nat.succ_eq_add_one, Int.not_lt, Int.not_le, gt_iff_lt, ge_iff_le, show bytesS T_fareboxref21_Form 25 = 1 from rfl, show bytesS T_fareboxref21_Form 41 = 8 from rfl] at *
    all_goals have hr := rightR_iff.1 hvc
    all_goals obtain ⟨hr, hm⟩ := hr
    all_goals simp only at hr hm
    all_goals try (
      have hex := ‹IFr _ _ _›
      obtain ⟨j, hj, rfl, hx⟩ := hex
      simp only at hj hx
      subst hx)
    all_goals try simp only [Int.toNat_natCast] at *
    all_goals try (
      have hn := rightM_rng hm _ (mem_getD (d := (0 : Int)) (show j < r_weights.length by omega))
      have hf := flat2_len (r_weights.take j)
      have hh := head_len r_owner r_op r_weights
      rw [List.length_take] at hf)
    all_goals try (refine Vc.mk ?_; first | decide | omega | (simp only [List.length_append, List.length_cons, List.length_nil]; omega))
    · refine ⟨⟨0, Nat.zero_le _, rfl, ?_⟩⟩
      simp only [headR, be1w, List.take_zero, List.flatMap_nil, List.append_nil]
      rfl
    · refine ⟨⟨j + 1, by simp only; omega, by rw [wrap64] <;> omega, ?_⟩, by rw [wrap64] <;> omega⟩
      simp only
      rw [take_getD (d := (0 : Int)) (by omega), List.flatMap_append, ← List.append_assoc]
      simp only [List.flatMap_cons, List.flatMap_nil, List.append_nil, be2w hn]
    · refine Res.mk ?_
      rw [List.take_of_length_le (by omega)]
      rfl
  · exact h.fail.elim

end Go.Proofs.Ythbmllekbbfobaa.Sx
