import Derived.Test.YthbmllekbbfobaaProg
import Derived.Test.YthbmllekbbfobaaSxU
import Derived.IntWalk
import Derived.Test.YthbmllekbbfobaaI4c2
/-! tlv, Put -/
namespace Go.Proofs.Ythbmllekbbfobaa.Sx
open Go
set_option linter.unusedVariables false
set_option linter.unusedSimpArgs false
set_option maxRecDepth 100000

def T_tlv_layS2 : TT := [(3, ⟨.int .i64, 1, 8, [.int .i64 0], some .int⟩),
  (4, ⟨.bool, 1, 1, [.bool false], some .bool⟩),
  (5, ⟨.int .u8, 1, 1, [.int .u8 0], some .u8⟩),
  (25, ⟨.slice 5, 1, 24, [.slice none 0 0], none⟩),
  (158, ⟨.slice 160, 1, 24, [.slice none 0 0], none⟩),
  (160, ⟨.strct [(0, 3), (1, 25), (2, 158)], 3, 56, [.int .i64 0, .slice none 0 0, .slice none 0 0], some .elem⟩)]
theorem tOk_tlv_layS2 : TOk Try.prog T_tlv_layS2 := tOk_of (by kernel_rfl)
def sp_tlv_layS2 : Spec := fun args hp => match args, hp with
  | [.slF 0], [(0, .row o_es .elem es)] => .vc (hE 2 es ∧ lE 2 es) (.tup [.slF 2000, bv (layS 2 es).2]) [(2000, some (.row true .u8 (layS 2 es).1))]
  | _, _ => .fail "tlv_layS2"
abbrev k_tlv_layS2 : List (Option RK) := [some .elem]
def a_tlv_layS2 : List SV → List (Nat × VB) → Anns := fun args hp => match args, hp with
  | [.slF 0], [(0, .row o_es .elem es)] => [(3, fun S => .inv [] [] [] fun ids vs rs => { cars := [.i 11 .i64, .r 4 true .u8], inv := fun ((i, b, _) : Int × List Int × Unit) => ILy 2 es i b, mu := fun ((i, b, _) : Int × List Int × Unit) => es.length - i.toNat })]
  | _, _ => []
set_option maxHeartbeats 20000000 in
theorem ok_tlv_layS2 : GOk Try.prog 128 (lift k_tlv_layS2 sp_tlv_layS2) := by
  refine pf_ok (T := T_tlv_layS2) (Γ := (128, lift k_tlv_layS1 sp_tlv_layS1) :: []) tOk_tlv_layS2 (gOks_cons ok_tlv_layS1 (gOks_nil _)) mixed Try.func128 (c := body Try.f128) (by kernel_rfl) (by kernel_rfl) k_tlv_layS2 sp_tlv_layS2 (by kernel_rfl) (by kernel_rfl) a_tlv_layS2 ?_
  intro args hp s u hfit h
  unfold sp_tlv_layS2 at h
  split at h
  · rename_i o_es es
    obtain ⟨hvc, rfl, rfl⟩ := h.vc
    clear h hfit
    change List Elem at es
    conv => whnf
    repeat' (first
      | (refine And.intro ?_ ?_ <;> try conv => whnf)
      | (intro hh; first | (cases hh; done) | conv => whnf))
    all_goals try first | rfl | kernel_rfl
    all_goals try simp only [decide_eq_true_eq, decide_eq_false_iff_not] at *
    all_goals try simp only [Key_eta, Share_eta, Journey_eta, Batch_eta, FieldT_eta, OpB_eta, Product_eta, Item_eta, Delta_eta, Elem_eta, Rule_eta, Do10_eta, Key_beq, Share_beq, Journey_beq, FieldT_beq, Product_beq, Item_beq, Do10_beq, toNat0, toNat1, toNat2, toNat3, toNat4, toNat5, toNat6, toNat7, toNat8, toNat9, toNat10, toNat11, toNat12, toNat13, toNat14, toNat15, toNat16, toNat17, toNat18, toNat19, iA, iOf, atS, rwA, castK, zK, true_and, and_true, decide_eq_true_eq, decide_eq_false_iff_not, beq_iff_eq, bne_iff_ne, beq_eq_false_iff_ne, bne_eq_false_iff_eq, Bool.not_eq_true', Bool.not_eq_false', Bool.not_eq_true, Bool.not_eq_false, Nat.succ_eq_add_one, Int.not_lt, Int.not_le, gt_iff_lt, ge_iff_le, show bytesS T_tlv_layS2 25 = 1 from rfl, show bytesS T_tlv_layS2 158 = 56 from rfl] at *
    all_goals obtain ⟨hH, hl⟩ := hvc
    all_goals have hlen := hE_len hl
    all_goals try (
      have hex := ‹ILy _ _ _ _›
      obtain ⟨j, c, rfl, hj, rfl, hcl, hr⟩ := hex
      try simp only [Int.toNat_natCast] at *)
    all_goals try (refine Vc.mk ?_; omega)
    all_goals try (exact ⟨⟨0, [], rfl, by omega, rfl, by simp, lay_preL _⟩⟩)
    all_goals try (
      have hm := mem_getD (d := (Elem.mk 0 [] [] : Elem)) (l := es) (j := j) (by omega)
      rw [drop_getD (d := (Elem.mk 0 [] [] : Elem)) (by omega), layGo] at hr)
    all_goals try (exact Vc.mk ⟨hH _ hm, (hl.2 _ hm).2⟩)
    all_goals try (
      have hbd : bodyE (recL 2) (es.getD j (Elem.mk 0 [] [] : Elem)) = (es.getD j (Elem.mk 0 [] [] : Elem)).bytes := if_pos ‹_›
      rw [hbd] at hr)
    all_goals try (
      have hbd : bodyE (recL 2) (es.getD j (Elem.mk 0 [] [] : Elem)) = (layS 1 (es.getD j (Elem.mk 0 [] [] : Elem)).elems).1 := if_neg (by omega)
      rw [hbd] at hr)
    all_goals try (refine Vc.mk ?_; simp only [List.length_append, List.length_cons, List.length_nil]; omega)
    all_goals try (
      rw [if_pos (by first | exact .inl ‹_› | exact .inr (by omega))] at hr
      have hc : layS 2 es = ([], false) := hr.symm
      exact Res.mk (by rw [hc]; exact ⟨rfl, rfl⟩))
    all_goals try (
      have hok : (recL 2 (es.getD j (Elem.mk 0 [] [] : Elem)).elems).2 = true := ‹_›
      rw [if_neg (by rw [hok]; simp only [Bool.true_eq_false, false_or]; omega), preL_pre] at hr
      refine ⟨⟨j + 1, _, rfl, by omega, by rw [wrap64] <;> omega, ?_, ?_⟩, by rw [wrap64] <;> omega⟩
      · simp only [List.length_append, List.length_cons, List.length_nil]; omega
      · rw [← List.append_assoc] at hr; exact hr)
    all_goals try (
      rw [List.drop_of_length_le (by omega), layGo, preL, if_pos rfl, List.append_nil] at hr
      have hc : layS 2 es = (c, true) := hr.symm
      exact Res.mk (by rw [hc]; exact ⟨rfl, rfl⟩))
    all_goals trace_state
    all_goals sorry
  · exact h.fail.elim

def T_tlv_Put : TT := [(3, ⟨.int .i64, 1, 8, [.int .i64 0], some .int⟩),
  (4, ⟨.bool, 1, 1, [.bool false], some .bool⟩),
  (5, ⟨.int .u8, 1, 1, [.int .u8 0], some .u8⟩),
  (25, ⟨.slice 5, 1, 24, [.slice none 0 0], none⟩),
  (27, ⟨.int .i64, 1, 8, [.int .i64 0], some .int⟩),
  (158, ⟨.slice 160, 1, 24, [.slice none 0 0], none⟩),
  (160, ⟨.strct [(0, 3), (1, 25), (2, 158)], 3, 56, [.int .i64 0, .slice none 0 0, .slice none 0 0], some .elem⟩)]
theorem tOk_tlv_Put : TOk Try.prog T_tlv_Put := tOk_of (by kernel_rfl)
def sp_tlv_Put : Spec := fun args hp => match args, hp with
  | [.slF 0], [(0, .row o_es .elem es)] => .vc (hE 2 es ∧ lE 2 es) (.tup [.slF 2000, iv (putTE es)]) [(2000, some (.row true .u8 (putT es)))]
  | _, _ => .fail "tlv_Put"
abbrev k_tlv_Put : List (Option RK) := [some .elem]
def a_tlv_Put : List SV → List (Nat × VB) → Anns := fun _ _ => []
set_option maxHeartbeats 20000000 in
theorem ok_tlv_Put : GOk Try.prog 82 (lift k_tlv_Put sp_tlv_Put) := by
  refine pf_ok (T := T_tlv_Put) (Γ := (126, lift k_tlv_deepS2 sp_tlv_deepS2) :: (127, lift k_tlv_rightS2 sp_tlv_rightS2) :: (128, lift k_tlv_layS2 sp_tlv_layS2) :: []) tOk_tlv_Put (gOks_cons ok_tlv_deepS2 (gOks_cons ok_tlv_rightS2 (gOks_cons ok_tlv_layS2 (gOks_nil _)))) mixed Try.func82 (c := body Try.f82) (by kernel_rfl) (by kernel_rfl) k_tlv_Put sp_tlv_Put (by kernel_rfl) (by kernel_rfl) a_tlv_Put ?_
  intro args hp s u hfit h
  unfold sp_tlv_Put at h
  split at h
  · rename_i o_es es
    obtain ⟨hvc, rfl, rfl⟩ := h.vc
    clear h hfit
    change List Elem at es
    conv => whnf
    repeat' (first
      | (refine And.intro ?_ ?_ <;> try conv => whnf)
      | (intro hh; first | (cases hh; done) | conv => whnf))
    all_goals try first | rfl | kernel_rfl
    all_goals try simp only [decide_eq_true_eq, decide_eq_false_iff_not] at *
    all_goals try simp only [Key_eta, Share_eta, Journey_eta, Batch_eta, FieldT_eta, OpB_eta, Product_eta, Item_eta, Delta_eta, Elem_eta, Rule_eta, Do10_eta, Key_beq, Share_beq, Journey_beq, FieldT_beq, Product_beq, Item_beq, Do10_beq, toNat0, toNat1, toNat2, toNat3, toNat4, toNat5, toNat6, toNat7, toNat8, toNat9, toNat10, toNat11, toNat12, toNat13, toNat14, toNat15, toNat16, toNat17, toNat18, toNat19, iA, iOf, atS, rwA, castK, zK, true_and, and_true, decide_eq_true_eq, decide_eq_false_iff_not, beq_iff_eq, bne_iff_ne, beq_eq_false_iff_ne, bne_eq_false_iff_eq, Bool.not_eq_true', Bool.not_eq_false', Bool.not_eq_true, Bool.not_eq_false, Nat.succ_eq_add_one, Int.not_lt, Int.not_le, gt_iff_lt, ge_iff_le, show bytesS T_tlv_Put 25 = 1 from rfl, show bytesS T_tlv_Put 158 = 56 from rfl] at *
    all_goals obtain ⟨hH, hl⟩ := hvc
    all_goals try (exact Vc.mk ⟨hH, hl⟩)
    all_goals try (exact Vc.mk ⟨hH, hl, by omega, by omega⟩)
    all_goals (refine Res.mk ?_; simp [putTE, putT, *])
  · exact h.fail.elim

end Go.Proofs.Ythbmllekbbfobaa.Sx
