import Derived.Test.YthbmllekbbfobaaProg
import Derived.Test.YthbmllekbbfobaaSxU
import Derived.IntWalk
import Derived.Test.YthbmllekbbfobaaI3c0
/-! tlv, Find -/
namespace Go.Proofs.Ythbmllekbbfobaa.Sx
open Go
set_option linter.unusedVariables false
set_option linter.unusedSimpArgs false
set_option maxRecDepth 100000

def T_tlv_Find : TT := [(3, ⟨.int .i64, 1, 8, [.int .i64 0], some .int⟩),
  (4, ⟨.bool, 1, 1, [.bool false], some .bool⟩),
  (5, ⟨.int .u8, 1, 1, [.int .u8 0], some .u8⟩),
  (25, ⟨.slice 5, 1, 24, [.slice none 0 0], none⟩),
  (158, ⟨.slice 160, 1, 24, [.slice none 0 0], none⟩),
  (160, ⟨.strct [(0, 3), (1, 25), (2, 158)], 3, 56, [.int .i64 0, .slice none 0 0, .slice none 0 0], some .elem⟩)]
theorem tOk_tlv_Find : TOk Try.prog T_tlv_Find := tOk_of (by kernel_rfl)
def sp_tlv_Find : Spec := fun args hp => match args, hp with
  | [.val (.int .i64 t), .slF 0], [(0, .row o_es .elem es)] => .vc (es.length ≤ 1048576 ∧ ∀ x ∈ es, hE 3 x.elems ∧ lE 3 x.elems ∧ x.bytes.length ≤ 1048576) (.tup [.agg [iv (findE t es).1.tag, .slF 2000, .slF 2001], bv (findE t es).2]) [(2000, some (.row true .u8 (findE t es).1.bytes)), (2001, some (.row true .elem (findE t es).1.elems))]
  | _, _ => .fail "tlv_Find"
abbrev k_tlv_Find : List (Option RK) := [none, some .elem]
def a_tlv_Find : List SV → List (Nat × VB) → Anns := fun args hp => match args, hp with
  | [.val (.int .i64 t), .slF 0], [(0, .row o_es .elem es)] => [(2, fun S => .inv [] [] [] fun ids vs rs => { cars := [.i 10 .i64], inv := fun ((i, _) : Int × Unit) => IFd t es i, mu := fun ((i, _) : Int × Unit) => es.length - i.toNat })]
  | _, _ => []
set_option maxHeartbeats 20000000 in
theorem ok_tlv_Find : GOk Try.prog 118 (lift k_tlv_Find sp_tlv_Find) := by
  refine pf_ok (T := T_tlv_Find) (Γ := (148, lift k_tlv_copiedS3 sp_tlv_copiedS3) :: []) tOk_tlv_Find (gOks_cons ok_tlv_copiedS3 (gOks_nil _)) mixed Try.func118 (c := body Try.f118) (by kernel_rfl) (by kernel_rfl) k_tlv_Find sp_tlv_Find (by kernel_rfl) (by kernel_rfl) a_tlv_Find ?_
  intro args hp s u hfit h
  unfold sp_tlv_Find at h
  split at h
  · rename_i t o_es es
    obtain ⟨hvc, rfl, rfl⟩ := h.vc
    clear h hfit
    change List Elem at es
    conv => whnf
    repeat' (first
      | (refine And.intro ?_ ?_ <;> try conv => whnf)
      | (intro hh; first | (cases hh; done) | conv => whnf))
    all_goals try first | rfl | kernel_rfl
    all_goals try simp only [decide_eq_true_eq, decide_eq_false_iff_not] at *
    all_goals try simp only [Key_eta, Share_eta, Journey_eta, Batch_eta, FieldT_eta, OpB_eta, Product_eta, Item_eta, Delta_eta, Elem_eta, Rule_eta, Do10_eta, Key_beq, Share_beq, Journey_beq, FieldT_beq, Product_beq, Item_beq, Do10_beq, toNat0, toNat1, toNat2, toNat3, toNat4, toNat5, toNat6, toNat7, toNat8, toNat9, toNat10, toNat11, toNat12, toNat13, toNat14, toNat15, toNat16, toNat17, toNat18, toNat19, iA, iOf, atS, rwA, castK, zK, true_and, and_true, decide_eq_true_eq, decide_eq_false_iff_not, beq_iff_eq, bne_iff_ne, beq_eq_false_iff_ne, bne_eq_false_iff_eq, Bool.not_eq_true', Bool.not_eq_false', Bool.not_eq_true, Bool.not_eq_false, Nat.succ_eq_add_one, Int.not_lt, Int.not_le, gt_iff_lt, ge_iff_le, show bytesS T_tlv_Find 25 = 1 from rfl, show bytesS T_tlv_Find 158 = 56 from rfl] at *
    all_goals obtain ⟨hL, hE_⟩ := hvc
    all_goals try (
      have hex := ‹IFd _ _ _›
      obtain ⟨j, hj, rfl, hf⟩ := hex
      try simp only [Int.toNat_natCast] at *)
    all_goals try (refine Vc.mk ?_; omega)
    all_goals try (
      have hm := mem_getD (d := (Elem.mk 0 [] [] : Elem)) (l := es) (j := j) (by omega))
    all_goals try (exact Vc.mk (hE_ _ hm))
    all_goals try (rw [drop_getD (d := (Elem.mk 0 [] [] : Elem)) (by omega)] at hf)
    · exact ⟨⟨0, Nat.zero_le _, rfl, rfl⟩⟩
    · rw [findE, if_pos ‹_›] at hf
      exact Res.mk (by rw [← hf]; exact ⟨rfl, rfl, rfl, rfl⟩)
    · rw [findE, if_neg ‹_›] at hf
      exact ⟨⟨j + 1, by omega, by rw [wrap64] <;> omega, hf⟩, by rw [wrap64] <;> omega⟩
    · rw [List.drop_of_length_le (by omega)] at hf
      exact Res.mk (by rw [← hf]; exact ⟨rfl, rfl, rfl, rfl⟩)
  · exact h.fail.elim

end Go.Proofs.Ythbmllekbbfobaa.Sx
