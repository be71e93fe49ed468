import Derived.Test.YthbmllekbbfobaaProg
import Derived.Test.YthbmllekbbfobaaSxU
import Derived.IntWalk
import Derived.Test.YthbmllekbbfobaaI2r
/-! tlv, get -/
namespace Go.Proofs.Ythbmllekbbfobaa.Sx
open Go
set_option linter.unusedVariables false
set_option linter.unusedSimpArgs false
set_option maxRecDepth 100000

def T_slices_Reverse_byte_byte : TT := [(3, ⟨.int .i64, 1, 8, [.int .i64 0], some .int⟩),
  (4, ⟨.bool, 1, 1, [.bool false], some .bool⟩),
  (5, ⟨.int .u8, 1, 1, [.int .u8 0], some .u8⟩),
  (25, ⟨.slice 5, 1, 24, [.slice none 0 0], none⟩)]
theorem tOk_slices_Reverse_byte_byte : TOk Try.prog T_slices_Reverse_byte_byte := tOk_of (by kernel_rfl)
def sp_slices_Reverse_byte_byte : Spec := fun args hp => match args, hp with
  | [.slF 0], [(0, .row true .u8 b)] => .vc (b.length ≤ 1099511627776) (.tup []) [(0, some (.row true .u8 b.reverse))]
  | _, _ => .fail "slices_Reverse_byte_byte"
abbrev k_slices_Reverse_byte_byte : List (Option RK) := [some .u8]
def a_slices_Reverse_byte_byte : List SV → List (Nat × VB) → Anns := fun args hp => match args, hp with
  | [.slF 0], [(0, .row true .u8 b)] => [(1, fun S => .inv [pOf (S.get 0)] [] [] fun ids vs rs => { cars := [.i 2 .i64, .i 3 .i64, .row (atN ids 0) true .u8], inv := fun ((i, j, xs, _) : Int × Int × List Int × Unit) => IRv b i j xs, mu := fun ((i, j, xs, _) : Int × Int × List Int × Unit) => (j + 1).toNat })]
  | _, _ => []
set_option maxHeartbeats 20000000 in
theorem ok_slices_Reverse_byte_byte : GOk Try.prog 125 (lift k_slices_Reverse_byte_byte sp_slices_Reverse_byte_byte) := by
  refine pf_ok (T := T_slices_Reverse_byte_byte) (Γ := []) tOk_slices_Reverse_byte_byte (gOks_nil _) mixed Try.func125 (c := body Try.f125) (by kernel_rfl) (by kernel_rfl) k_slices_Reverse_byte_byte sp_slices_Reverse_byte_byte (by kernel_rfl) (by kernel_rfl) a_slices_Reverse_byte_byte ?_
  intro args hp s u hfit h
  unfold sp_slices_Reverse_byte_byte at h
  split at h
  · rename_i b
    obtain ⟨hvc, rfl, rfl⟩ := h.vc
    clear h hfit
    change List Int at b
    conv => whnf
    repeat' (first
      | (refine And.intro ?_ ?_ <;> try conv => whnf)
      | (intro hh; first | (cases hh; done) | conv => whnf))
    all_goals try first | rfl | kernel_rfl
    all_goals try simp only [decide_eq_true_eq, decide_eq_false_iff_not] at *
    all_goals try simp only [Key_eta, Share_eta, Journey_eta, Batch_eta, FieldT_eta, OpB_eta, Product_eta, Item_eta, Delta_eta, Elem_eta, Rule_eta, Do10_eta, Key_beq, Share_beq, Journey_beq, FieldT_beq, Product_beq, Item_beq, Do10_beq, toNat0, toNat1, toNat2, toNat3, toNat4, toNat5, toNat6, toNat7, toNat8, toNat9, toNat10, toNat11, toNat12, toNat13, toNat14, toNat15, toNat16, toNat17, toNat18, toNat19, iA, iOf, atS, rwA, castK, zK, true_and, and_true, decide_eq_true_eq, decide_eq_false_iff_not, beq_iff_eq, bne_iff_ne, beq_eq_false_iff_ne, bne_eq_false_iff_eq, Bool.not_eq_true', Bool.not_eq_false', Bool.not_eq_true, Bool.not_eq_false, Nat.succ_eq_add_one, Int.not_lt, Int.not_le, gt_iff_lt, ge_iff_le, show bytesS T_slices_Reverse_byte_byte 25 = 1 from rfl] at *
    all_goals try (
      have hex := ‹IRv _ _ _ _›
      obtain ⟨k, xs, rfl, hk, rfl, rfl, hl, hg⟩ := hex
      have z : ((b.length : Int) - 1 - k).toNat = b.length - 1 - k := by omega
      simp only [z, Int.toNat_natCast] at *)
    all_goals try (refine Vc.mk ?_; first | omega | (rw [List.length_set]; omega))
    · rw [wrap64 (by omega) (by omega)]
      exact ⟨⟨0, b, rfl, by omega, rfl, by omega, rfl, fun q hq => by rw [if_neg (by omega)]⟩⟩
    · rw [wrap64 (by omega) (by omega), wrap64 (by omega) (by omega)]
      exact ⟨⟨k + 1, _, rfl, by omega, by omega, by omega, by simp [hl], rev_step (by omega) hl hg⟩, by omega⟩
    · refine Res.mk (eq_of_getD (by rw [hl, List.length_reverse]) fun q hq => ?_)
      rw [rev_getD (by omega), hg q (by omega)]
      split
      · rfl
      · congr 1; omega
  · exact h.fail.elim

def T_tlv_Num : TT := [(3, ⟨.int .i64, 1, 8, [.int .i64 0], some .int⟩),
  (4, ⟨.bool, 1, 1, [.bool false], some .bool⟩),
  (5, ⟨.int .u8, 1, 1, [.int .u8 0], some .u8⟩),
  (25, ⟨.slice 5, 1, 24, [.slice none 0 0], none⟩)]
theorem tOk_tlv_Num : TOk Try.prog T_tlv_Num := tOk_of (by kernel_rfl)
def sp_tlv_Num : Spec := fun args hp => match args, hp with
  | [.val (.int .i64 n)], [] => .vc (n ≤ 9223372036854775807) (.slF 2000) [(2000, some (.row true .u8 (numB n)))]
  | _, _ => .fail "tlv_Num"
abbrev k_tlv_Num : List (Option RK) := [none]
def a_tlv_Num : List SV → List (Nat × VB) → Anns := fun args hp => match args, hp with
  | [.val (.int .i64 n)], [] => [(2, fun S => .inv [] [] [] fun ids vs rs => { cars := [.i 0 .i64, .r 3 true .u8], inv := fun ((n1, b, _) : Int × List Int × Unit) => INm n n1 b, mu := fun ((n1, b, _) : Int × List Int × Unit) => n1.toNat })]
  | _, _ => []
set_option maxHeartbeats 20000000 in
theorem ok_tlv_Num : GOk Try.prog 81 (lift k_tlv_Num sp_tlv_Num) := by
  refine pf_ok (T := T_tlv_Num) (Γ := (125, lift k_slices_Reverse_byte_byte sp_slices_Reverse_byte_byte) :: []) tOk_tlv_Num (gOks_cons ok_slices_Reverse_byte_byte (gOks_nil _)) mixed Try.func81 (c := body Try.f81) (by kernel_rfl) (by kernel_rfl) k_tlv_Num sp_tlv_Num (by kernel_rfl) (by kernel_rfl) a_tlv_Num ?_
  intro args hp s u hfit h
  unfold sp_tlv_Num at h
  split at h
  · rename_i n
    obtain ⟨hvc, rfl, rfl⟩ := h.vc
    clear h hfit
    conv => whnf
    repeat' (first
      | (refine And.intro ?_ ?_ <;> try conv => whnf)
      | (intro hh; first | (cases hh; done) | conv => whnf))
    all_goals try first | rfl | kernel_rfl
    all_goals try simp only [decide_eq_true_eq, decide_eq_false_iff_not] at *
    all_goals try simp only [Key_eta, Share_eta, Journey_eta, Batch_eta, FieldT_eta, OpB_eta, Product_eta, Item_eta, Delta_eta, Elem_eta, Rule_eta, Do10_eta, Key_beq, Share_beq, Journey_beq, FieldT_beq, Product_beq, Item_beq, Do10_beq, toNat0, toNat1, toNat2, toNat3, toNat4, toNat5, toNat6, toNat7, toNat8, toNat9, toNat10, toNat11, toNat12, toNat13, toNat14, toNat15, toNat16, toNat17, toNat18, toNat19, iA, iOf, atS, rwA, castK, zK, true_and, and_true, decide_eq_true_eq, decide_eq_false_iff_not, beq_iff_eq, bne_iff_ne, beq_eq_false_iff_ne, bne_eq_false_iff_eq, Bool.not_eq_true', Bool.not_eq_false', Bool.not_eq_true, Bool.not_eq_false, Nat.succ_eq_add_one, Int.not_lt, Int.not_le, gt_iff_lt, ge_iff_le, show bytesS T_tlv_Num 25 = 1 from rfl] at *
    all_goals try (
      have hex := ‹INm _ _ _›
      obtain ⟨k, m, c, rfl, rfl, hk, hcl, hcat, hm⟩ := hex)
    all_goals try (refine Vc.mk ?_; first | omega | (simp only [List.length_cons, List.length_nil]; omega))
    · exact ⟨⟨0, n, [], rfl, rfl, by omega, by simp, rfl, by simp only [Nat.mul_zero, Nat.sub_zero, Int.reducePow]; omega⟩⟩
    · obtain ⟨h8, hlt⟩ := num_step ‹_› hk hm
      have hf : Int.fdiv m (2 ^ min 8 IntKind.i64.bits) = m / 256 := by
        rw [Int.fdiv_eq_ediv_of_nonneg _ (by decide)]; rfl
      rw [hf, IntKind.wrap_u8]
      refine ⟨⟨k + 1, _, _, rfl, rfl, by omega, by rw [List.length_append]; simp only [List.length_cons, List.length_nil]; omega, ?_, hlt⟩, by omega⟩
      rw [← hcat, show 8 - k = (8 - (k + 1)) + 1 by omega, leB, if_neg (by omega), List.append_assoc]; rfl
    · rw [leB_nil ‹_›, List.append_nil] at hcat
      exact Res.mk (by rw [numB, hcat])
  · exact h.fail.elim

end Go.Proofs.Ythbmllekbbfobaa.Sx
