import Derived.Test.YthbmllekbbfobaaProg
import Derived.Test.YthbmllekbbfobaaSxU
import Derived.IntWalk
import Derived.Test.YthbmllekbbfobaaR4r
/-! rules, forms -/
namespace Go.Proofs.Ythbmllekbbfobaa.Sx
open Go
set_option linter.unusedVariables false
set_option linter.unusedSimpArgs false
set_option maxRecDepth 100000

def T_rules_Form : TT := [(3, ⟨.int .i64, 1, 8, [.int .i64 0], some .int⟩),
  (4, ⟨.bool, 1, 1, [.bool false], some .bool⟩),
  (5, ⟨.int .u8, 1, 1, [.int .u8 0], some .u8⟩),
  (25, ⟨.slice 5, 1, 24, [.slice none 0 0], none⟩),
  (27, ⟨.int .i64, 1, 8, [.int .i64 0], some .int⟩),
  (41, ⟨.slice 3, 1, 24, [.slice none 0 0], none⟩),
  (88, ⟨.strct [(0, 3), (1, 3), (2, 41)], 3, 40, [.int .i64 0, .int .i64 0, .slice none 0 0], some .rule⟩),
  (131, ⟨.strct [(0, 25), (1, 3)], 2, 32, [.slice none 0 0, .int .i64 0], none⟩),
  (134, ⟨.strct [(0, 3), (1, 3)], 2, 16, [.int .i64 0, .int .i64 0], some .fieldT⟩),
  (196, ⟨.slice 134, 1, 24, [.slice none 0 0], none⟩)]
theorem tOk_rules_Form : TOk Try.prog T_rules_Form := tOk_of (by kernel_rfl)
def sp_rules_Form : Spec := fun args hp => match args, hp with
  | [.agg [.val (.int .i64 r_owner), .val (.int .i64 r_op), .slF 0]], [(0, .row o_r_weights .int r_weights)] => .vc ((⟨r_owner, r_op, r_weights⟩ : Rule).weights.length ≤ 1048576 ∧ ∀ n ∈ (⟨r_owner, r_op, r_weights⟩ : Rule).weights, -9223372036854775808 ≤ n ∧ n ≤ 9223372036854775807) (.tup [.slF 2000, iv (formE (⟨r_owner, r_op, r_weights⟩ : Rule))]) [(2000, some (.row true .u8 (formB (⟨r_owner, r_op, r_weights⟩ : Rule))))]
  | _, _ => .fail "rules_Form"
abbrev k_rules_Form : List (Option RK) := [none]
def a_rules_Form : List SV → List (Nat × VB) → Anns := fun args hp => match args, hp with
  | [.agg [.val (.int .i64 r_owner), .val (.int .i64 r_op), .slF 0]], [(0, .row o_r_weights .int r_weights)] => [(6, fun S => .inv [pOf (S.get 4)] [] [] fun ids vs rs => { cars := [.i 25 .i64, .blk (atN ids 0) [.r true .u8, .i .i64]], inv := fun ((i, (xs, n, _), _) : Int × (List Int × Int × Unit) × Unit) => IFm r_owner r_op r_weights i xs n, mu := fun ((i, (xs, n, _), _) : Int × (List Int × Int × Unit) × Unit) => r_weights.length - i.toNat })]
  | _, _ => []
set_option maxHeartbeats 20000000 in
theorem ok_rules_Form : GOk Try.prog 53 (lift k_rules_Form sp_rules_Form) := by
  refine pf_ok (T := T_rules_Form) (Γ := (99, lift k_rules_right sp_rules_right) :: (61, lift k_bits_Writer_Put sp_bits_Writer_Put) :: (62, lift k_bits_Writer_Bytes sp_bits_Writer_Bytes) :: []) tOk_rules_Form (gOks_cons ok_rules_right (gOks_cons ok_bits_Writer_Put (gOks_cons ok_bits_Writer_Bytes (gOks_nil _)))) mixed Try.func53 (c := body Try.f53) (by kernel_rfl) (by kernel_rfl) k_rules_Form sp_rules_Form (by kernel_rfl) (by kernel_rfl) a_rules_Form ?_
  intro args hp s u hfit h
  unfold sp_rules_Form at h
  split at h
  · rename_i r_owner r_op o_r_weights r_weights
    obtain ⟨hvc, rfl, rfl⟩ := h.vc
    clear h hfit
    conv => whnf
    repeat' (first
      | (refine And.intro ?_ ?_ <;> try conv => whnf)
      | (intro hh; first | (cases hh; done) | conv => whnf))
    all_goals try first | rfl | kernel_rfl
    all_goals try simp only [decide_eq_true_eq, decide_eq_false_iff_not] at *
    all_goals try simp only [Key_eta, Share_eta, Journey_eta, Batch_eta, FieldT_eta, OpB_eta, Product_eta, Item_eta, Delta_eta, Elem_eta, Rule_eta, Do10_eta, Ask_eta, Key_beq, Share_beq, Journey_beq, FieldT_beq, Product_beq, Item_beq, Do10_beq, Ask_beq, toNat0, toNat1, toNat2, toNat3, toNat4, toNat5, toNat6, toNat7, toNat8, toNat9, toNat10, toNat11, toNat12, toNat13, toNat14, toNat15, toNat16, toNat17, toNat18, toNat19, iA, iOf, atS, rwA, castK, zK, true_and, and_true, decide_eq_true_eq, decide_eq_false_iff_not, beq_iff_eq, bne_iff_ne, beq_eq_false_iff_ne, bne_eq_false_iff_eq, Bool.not_eq_true', Bool.not_eq_false', Bool.not_eq_true, Bool.not_eq_false, Nat.succ_eq_add_one, Int.not_lt, Int.not_le, gt_iff_lt, ge_iff_le, show bytesS T_rules_Form 25 = 1 from rfl, show bytesS T_rules_Form 41 = 8 from rfl, show bytesS T_rules_Form 196 = 16 from rfl] at *
    all_goals obtain ⟨hL, hW⟩ := hvc
    all_goals try (
      have hr := (rightR_iff.1 ‹rightR _ _ = true›)
      obtain ⟨hr, hm⟩ := hr
      simp only at hr hm
      have hp := head_put ‹rightR _ _ = true›
      simp only at hp)
    all_goals try (
      have hex := ‹IFm _ _ _ _ _ _›
      obtain ⟨j, hj, rfl, hx, rfl⟩ := hex
      try subst hx)
    all_goals try simp only [Int.toNat_natCast] at *
    all_goals try (
      have hn := rightM_rng hm _ (mem_getD (d := (0 : Int)) (show j < r_weights.length by omega))
      have ho := one_put (b := headR r_owner r_op r_weights ++ (r_weights.take j).flatMap (be 2)) hn)
    all_goals try (
      have hf := flat2_len (r_weights.take j)
      have hh := head_len r_owner r_op r_weights
      rw [List.length_take] at hf)
    · exact Vc.mk ⟨by omega, hW⟩
    · refine Res.mk ⟨?_, ?_⟩
      · rw [formB, if_neg (by simp_all)]
      · rw [formE, if_neg (by simp_all)]
    · exact Vc.mk ⟨by first | rfl | trivial, by simp, by simp⟩
    · exact ⟨⟨0, Nat.zero_le _, rfl, by rw [hp, List.take_zero, List.flatMap_nil, List.append_nil], rfl⟩⟩
    · exact Vc.mk (by omega)
    · exact Vc.mk (by omega)
    · exact Vc.mk ⟨by first | rfl | trivial, by simp, by simp only [List.length_append, List.length_cons, List.length_nil]; omega⟩
    · refine ⟨⟨j + 1, by omega, by rw [wrap64] <;> omega, ?_, rfl⟩, by rw [wrap64] <;> omega⟩
      rw [ho, take_getD (d := (0 : Int)) (by omega), List.flatMap_append, List.append_assoc]
      simp only [List.flatMap_cons, List.flatMap_nil, List.append_nil]
    · exact Vc.mk (by simp only [List.length_append]; omega)
    · refine Res.mk ⟨?_, ?_⟩
      · rw [formB, if_pos (by assumption), List.take_of_length_le (by omega)]
        rfl
      · rw [formE, if_pos (by assumption)]
  · exact h.fail.elim

def T_fareboxlaw21_awake : TT := [(3, ⟨.int .i64, 1, 8, [.int .i64 0], some .int⟩),
  (4, ⟨.bool, 1, 1, [.bool false], some .bool⟩),
  (5, ⟨.int .u8, 1, 1, [.int .u8 0], some .u8⟩),
  (9, ⟨.str, 1, 16, [.string .empty], some .str⟩),
  (25, ⟨.slice 5, 1, 24, [.slice none 0 0], none⟩),
  (27, ⟨.int .i64, 1, 8, [.int .i64 0], some .int⟩),
  (41, ⟨.slice 3, 1, 24, [.slice none 0 0], none⟩),
  (56, ⟨.int .i64, 1, 8, [.int .i64 0], some .int⟩),
  (88, ⟨.strct [(0, 3), (1, 3), (2, 41)], 3, 40, [.int .i64 0, .int .i64 0, .slice none 0 0], some .rule⟩),
  (90, ⟨.strct [(0, 3), (1, 3), (2, 3), (3, 3), (4, 3), (5, 56), (6, 3), (7, 3), (8, 3), (9, 3)], 10, 80, [.int .i64 0, .int .i64 0, .int .i64 0, .int .i64 0, .int .i64 0, .int .i64 0, .int .i64 0, .int .i64 0, .int .i64 0, .int .i64 0], some .journey⟩),
  (91, ⟨.ptr, 1, 8, [.pointer none], none⟩),
  (95, ⟨.slice 88, 1, 24, [.slice none 0 0], none⟩),
  (97, ⟨.slice 101, 1, 24, [.slice none 0 0], none⟩),
  (101, ⟨.strct [(0, 3), (1, 3)], 2, 16, [.int .i64 0, .int .i64 0], some .share⟩)]
theorem tOk_fareboxlaw21_awake : TOk Try.prog T_fareboxlaw21_awake := tOk_of (by kernel_rfl)
def sp_fareboxlaw21_awake : Spec := fun args hp => match args, hp with
  | [], [] => .ok (bv true) []
  | _, _ => .fail "fareboxlaw21_awake"
abbrev k_fareboxlaw21_awake : List (Option RK) := []
def a_fareboxlaw21_awake : List SV → List (Nat × VB) → Anns := fun _ _ => []
set_option maxHeartbeats 20000000 in
theorem ok_fareboxlaw21_awake : GOk Try.prog 41 (lift k_fareboxlaw21_awake sp_fareboxlaw21_awake) := by
  refine pf_ok (T := T_fareboxlaw21_awake) (Γ := (42, lift k_rules_New sp_rules_New) :: (43, lift k_rules_Set_Put sp_rules_Set_Put) :: (98, lift k_fareboxlaw21_ride sp_fareboxlaw21_ride) :: (45, lift k_rules_Set_Share sp_rules_Set_Share) :: (53, lift k_rules_Form sp_rules_Form) :: (50, lift k_fareboxref21_Shares sp_fareboxref21_Shares) :: []) tOk_fareboxlaw21_awake (gOks_cons ok_rules_New (gOks_cons ok_rules_Set_Put (gOks_cons ok_fareboxlaw21_ride (gOks_cons ok_rules_Set_Share (gOks_cons ok_rules_Form (gOks_cons ok_fareboxref21_Shares (gOks_nil _))))))) mixed Try.func41 (c := body Try.f41) (by kernel_rfl) (by kernel_rfl) k_fareboxlaw21_awake sp_fareboxlaw21_awake (by kernel_rfl) (by kernel_rfl) a_fareboxlaw21_awake ?_
  intro args hp s u hfit h
  unfold sp_fareboxlaw21_awake at h
  split at h
  · skip
    obtain ⟨rfl, rfl⟩ := h.ok
    clear h hfit
    conv => whnf
    repeat' (first
      | (refine And.intro ?_ ?_ <;> try conv => whnf)
      | (intro hh; first | (cases hh; done) | conv => whnf))
    all_goals try first | rfl | kernel_rfl
    all_goals try simp only [decide_eq_true_eq, decide_eq_false_iff_not] at *
    all_goals try simp only [Key_eta, Share_eta, Journey_eta, Batch_eta, FieldT_eta, OpB_eta, Product_eta, Item_eta, Delta_eta, Elem_eta, Rule_eta, Do10_eta, Ask_eta, Key_beq, Share_beq, Journey_beq, FieldT_beq, Product_beq, Item_beq, Do10_beq, Ask_beq, toNat0, toNat1, toNat2, toNat3, toNat4, toNat5, toNat6, toNat7, toNat8, toNat9, toNat10, toNat11, toNat12, toNat13, toNat14, toNat15, toNat16, toNat17, toNat18, toNat19, iA, iOf, atS, rwA, castK, zK, true_and, and_true, decide_eq_true_eq, decide_eq_false_iff_not, beq_iff_eq, bne_iff_ne, beq_eq_false_iff_ne, bne_eq_false_iff_eq, Bool.not_eq_true', Bool.not_eq_false', Bool.not_eq_true, Bool.not_eq_false, Nat.succ_eq_add_one, Int.not_lt, Int.not_le, gt_iff_lt, ge_iff_le, show bytesS T_fareboxlaw21_awake 25 = 1 from rfl, show bytesS T_fareboxlaw21_awake 41 = 8 from rfl, show bytesS T_fareboxlaw21_awake 95 = 40 from rfl, show bytesS T_fareboxlaw21_awake 97 = 16 from rfl] at *
    · exact Vc.mk ⟨okset_nil (by omega), by simp, by simp⟩
    · have h := okset_puts (rs := [⟨2, 1, [3, 1]⟩]) (okset_nil (ops := 3) (by omega))
      have hl := okset_len h
      exact Vc.mk ⟨by omega, h⟩
    · exact Vc.mk (by simp)
    · have h : shL 3 (putRs 3 [] [⟨2, 1, [3, 1]⟩]) ride21 = [⟨2, -10⟩, ⟨1, 8⟩, ⟨2, 2⟩] := by kernel_rfl
      rw [h]
      exact Vc.mk (by simp)
    · exact Res.mk (by kernel_rfl)
  · exact h.fail.elim

end Go.Proofs.Ythbmllekbbfobaa.Sx
