import Derived.Test.YthbmllekbbfobaaProg
import Derived.Test.YthbmllekbbfobaaSxU
import Derived.IntWalk
import Derived.Test.YthbmllekbbfobaaI8c0
/-! ipe, Open -/
namespace Go.Proofs.Ythbmllekbbfobaa.Sx
open Go
set_option linter.unusedVariables false
set_option linter.unusedSimpArgs false
set_option maxRecDepth 100000

def T_ipe_Open : TT := [(3, ⟨.int .i64, 1, 8, [.int .i64 0], some .int⟩),
  (4, ⟨.bool, 1, 1, [.bool false], some .bool⟩),
  (5, ⟨.int .u8, 1, 1, [.int .u8 0], some .u8⟩),
  (25, ⟨.slice 5, 1, 24, [.slice none 0 0], none⟩),
  (27, ⟨.int .i64, 1, 8, [.int .i64 0], some .int⟩),
  (41, ⟨.slice 3, 1, 24, [.slice none 0 0], none⟩),
  (56, ⟨.int .i64, 1, 8, [.int .i64 0], some .int⟩),
  (58, ⟨.strct [(0, 56), (1, 3), (2, 3), (3, 3), (4, 3), (5, 3), (6, 3), (7, 3), (8, 4), (9, 3), (10, 3), (11, 3), (12, 3), (13, 4)], 14, 112, [.int .i64 0, .int .i64 0, .int .i64 0, .int .i64 0, .int .i64 0, .int .i64 0, .int .i64 0, .int .i64 0, .bool false, .int .i64 0, .int .i64 0, .int .i64 0, .int .i64 0, .bool false], some .product⟩),
  (59, ⟨.int .i64, 1, 8, [.int .i64 0], some .int⟩),
  (138, ⟨.ptr, 1, 8, [.pointer none], none⟩),
  (167, ⟨.other, 1, 8, [.nilFunc], none⟩)]
theorem tOk_ipe_Open : TOk Try.prog T_ipe_Open := tOk_of (by kernel_rfl)
def sp_ipe_Open : Spec := fun args hp => match args, hp with
  | [.slF 0], [(0, .row o_b .u8 b)] => .vc (isB b ∧ b.length ≤ 1048576) (.tup [svProduct (opP b), iv (opT b), iv (opE b)]) []
  | _, _ => .fail "ipe_Open"
abbrev k_ipe_Open : List (Option RK) := [some .u8]
def a_ipe_Open : List SV → List (Nat × VB) → Anns := fun _ _ => []
set_option maxHeartbeats 20000000 in
theorem ok_ipe_Open : GOk Try.prog 34 (lift k_ipe_Open sp_ipe_Open) := by
  refine pf_ok (T := T_ipe_Open) (Γ := (77, lift k_ipe_ParseP sp_ipe_ParseP) :: (88, lift k_slices_ContainsFunc_byte_byte sp_slices_ContainsFunc_byte_byte) :: (65, lift k_bits_ReadP sp_bits_ReadP) :: (66, lift k_bits_Reader_Take sp_bits_Reader_Take) :: []) tOk_ipe_Open (gOks_cons ok_ipe_ParseP (gOks_cons ok_slices_ContainsFunc_byte_byte (gOks_cons ok_bits_ReadP (gOks_cons ok_bits_Reader_Take (gOks_nil _))))) mixed Try.func34 (c := body Try.f34) (by kernel_rfl) (by kernel_rfl) k_ipe_Open sp_ipe_Open (by kernel_rfl) (by kernel_rfl) a_ipe_Open ?_
  intro args hp s u hfit h
  unfold sp_ipe_Open at h
  split at h
  · rename_i o_b b
    obtain ⟨hvc, rfl, rfl⟩ := h.vc
    clear h hfit
    change List Int at b
    conv => whnf
    repeat' (first
      | (refine And.intro ?_ ?_ <;> try conv => whnf)
      | (intro hh; first | (cases hh; done) | conv => whnf))
    all_goals try first | rfl | kernel_rfl
    all_goals try simp only [decide_eq_true_eq, decide_eq_false_iff_not] at *
    all_goals try simp only [Key_eta, Share_eta, Journey_eta, Batch_eta, FieldT_eta, OpB_eta, Product_eta, Item_eta, Delta_eta, Elem_eta, Rule_eta, Do10_eta, Key_beq, Share_beq, Journey_beq, FieldT_beq, Product_beq, Item_beq, Do10_beq, toNat0, toNat1, toNat2, toNat3, toNat4, toNat5, toNat6, toNat7, toNat8, toNat9, toNat10, toNat11, toNat12, toNat13, toNat14, toNat15, toNat16, toNat17, toNat18, toNat19, iA, iOf, atS, rwA, castK, zK, true_and, and_true, decide_eq_true_eq, decide_eq_false_iff_not, beq_iff_eq, bne_iff_ne, beq_eq_false_iff_ne, bne_eq_false_iff_eq, Bool.not_eq_true', Bool.not_eq_false', Bool.not_eq_true, Bool.not_eq_false, Nat.succ_eq_add_one, Int.not_lt, Int.not_le, gt_iff_lt, ge_iff_le, show bytesS T_ipe_Open 25 = 1 from rfl, show bytesS T_ipe_Open 41 = 8 from rfl] at *
    all_goals obtain ⟨hB, hL⟩ := hvc
    all_goals have t0 := hB.getD 0
    all_goals have w0 : IntKind.i64.wrap (b.getD 0 0) = b.getD 0 0 := wrap64 (by omega) (by omega)
    all_goals try simp only [w0] at *
    all_goals try (refine Vc.mk ?_; omega)
    all_goals try (
      have hc : b.length < 64 := by omega
      have hE : opE b = 10 := op10 hc
      obtain ⟨e1, e2, e3⟩ := op_ne hE (by first | decide | assumption)
      rw [e1, e2, e3]
      exact Res.mk ⟨rfl, rfl, rfl, rfl, rfl, rfl, rfl, rfl, rfl, rfl, rfl, rfl, rfl, rfl, rfl, rfl⟩)
    all_goals try (
      have hc : 64 < b.length := by omega
      have hE : opE b = 11 := op11 hc
      obtain ⟨e1, e2, e3⟩ := op_ne hE (by first | decide | assumption)
      rw [e1, e2, e3]
      exact Res.mk ⟨rfl, rfl, rfl, rfl, rfl, rfl, rfl, rfl, rfl, rfl, rfl, rfl, rfl, rfl, rfl, rfl⟩)
    all_goals have h64 : b.length = 64 := by omega
    all_goals try (
      have hc : 59 < b.getD 0 0 := by omega
      have hE : opE b = 12 := op12 h64 hc
      obtain ⟨e1, e2, e3⟩ := op_ne hE (by first | decide | assumption)
      rw [e1, e2, e3]
      exact Res.mk ⟨rfl, rfl, rfl, rfl, rfl, rfl, rfl, rfl, rfl, rfl, rfl, rfl, rfl, rfl, rfl, rfl⟩)
    all_goals have h59 : b.getD 0 0 ≤ 59 := by omega
    all_goals have hbl := bodyO_len h64 hB (by omega)
    all_goals have hbB : isB (bodyO b) := (hB.drop 1).take _
    all_goals have w1 : IntKind.i64.wrap (1 + b.getD 0 0) = ((1 + (b.getD 0 0).toNat : Nat) : Int) := by rw [wrap64 (by omega) (by omega)]; omega
    all_goals have w5 : IntKind.i64.wrap (5 + b.getD 0 0) = ((5 + (b.getD 0 0).toNat : Nat) : Int) := by rw [wrap64 (by omega) (by omega)]; omega
    all_goals try simp only [w1, w5, Int.toNat_natCast, Nat.add_sub_cancel_left] at *
    all_goals have hbo : (b.drop 1).take (b.getD 0 0).toNat = bodyO b := rfl
    all_goals try simp only [hbo] at *
    all_goals try (refine Vc.mk ?_; omega)
    all_goals try (exact Vc.mk ⟨hbB, by omega⟩)
    all_goals try (
      have hc : parE (bodyO b) ≠ 0 := ‹_›
      have hE : opE b = parE (bodyO b) := opPar h64 h59 hc
      obtain ⟨e1, e2, e3⟩ := op_ne hE (by first | decide | assumption)
      rw [e1, e2, e3]
      exact Res.mk ⟨rfl, rfl, rfl, rfl, rfl, rfl, rfl, rfl, rfl, rfl, rfl, rfl, rfl, rfl, rfl, rfl⟩)
    all_goals have hp0 : parE (bodyO b) = 0 := ‹_›
    all_goals have hta : (b.drop (5 + (b.getD 0 0).toNat)).take (b.length - (5 + (b.getD 0 0).toNat)) = b.drop (5 + (b.getD 0 0).toNat) := List.take_of_length_le (by rw [List.length_drop]; omega)
    all_goals have e4 : 5 + (b.getD 0 0).toNat - (1 + (b.getD 0 0).toNat) = 4 := by omega
    all_goals have htl : ((b.drop (1 + (b.getD 0 0).toNat)).take 4).length = 4 := by rw [List.length_take, List.length_drop]; omega
    all_goals obtain ⟨q1, q2⟩ := t32z htl
    all_goals try simp only [hta, e4, q1, q2, List.length_cons, List.length_nil, List.getD_cons_zero] at *
    all_goals try (refine Vc.mk ?_; first | omega | (rw [List.length_drop]; omega) | decide)
    all_goals try (refine Vc.mk ⟨by decide, by decide, by omega, ?_, (hB.drop _).take _, by omega, by decide⟩; intro w hw; obtain rfl := List.mem_singleton.1 hw; decide)
    all_goals try (
      have hc : (b.drop (5 + (b.getD 0 0).toNat)).any nzB = true := ‹_›
      have hE : opE b = 14 := op14 h64 h59 hp0 hc
      obtain ⟨e1, e2, e3⟩ := op_ne hE (by first | decide | assumption)
      rw [e1, e2, e3]
      exact Res.mk ⟨rfl, rfl, rfl, rfl, rfl, rfl, rfl, rfl, rfl, rfl, rfl, rfl, rfl, rfl, rfl, rfl⟩)
    all_goals have ha : (b.drop (5 + (b.getD 0 0).toNat)).any nzB = false := ‹_›
    all_goals have hk : num ((b.drop (1 + (b.getD 0 0).toNat)).take 4) = tokO b := rfl
    all_goals simp only [hk] at *
    all_goals try (
      have hc : tokO b < 1 ∨ 2147483647 < tokO b := by omega
      have hE : opE b = 12 := opTok h64 h59 hp0 ha hc
      obtain ⟨e1, e2, e3⟩ := op_ne hE (by first | decide | assumption)
      rw [e1, e2, e3]
      exact Res.mk ⟨rfl, rfl, rfl, rfl, rfl, rfl, rfl, rfl, rfl, rfl, rfl, rfl, rfl, rfl, rfl, rfl⟩)
    all_goals (
      obtain ⟨e1, e2, e3⟩ := op_ok (opOk h64 h59 hp0 ha (by omega))
      rw [e1, e2, e3]
      exact Res.mk ⟨rfl, rfl, rfl, rfl, rfl, rfl, rfl, rfl, rfl, rfl, rfl, rfl, rfl, rfl, rfl, rfl⟩)
  · exact h.fail.elim

end Go.Proofs.Ythbmllekbbfobaa.Sx
