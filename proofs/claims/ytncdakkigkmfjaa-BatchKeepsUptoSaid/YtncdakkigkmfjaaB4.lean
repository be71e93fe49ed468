import Derived.Test.YtncdakkigkmfjaaProg
import Derived.Test.YtncdakkigkmfjaaSxU
import Derived.IntWalk
import Derived.Test.YtncdakkigkmfjaaB4r
/-! fareboxlaw17, BatchOrder -/
namespace Go.Proofs.Ytncdakkigkmfjaa.Sx
open Go
set_option linter.unusedVariables false
set_option linter.unusedSimpArgs false
set_option maxRecDepth 100000

def T_fareboxlaw17_ride : TT := [(3, ⟨.int .i64, 1, 8, [.int .i64 0], some .int⟩),
  (40, ⟨.int .i64, 1, 8, [.int .i64 0], none⟩),
  (73, ⟨.strct [(0, 3), (1, 3), (2, 3), (3, 3), (4, 3), (5, 40), (6, 3), (7, 3), (8, 3), (9, 3)], 10, 80, [.int .i64 0, .int .i64 0, .int .i64 0, .int .i64 0, .int .i64 0, .int .i64 0, .int .i64 0, .int .i64 0, .int .i64 0, .int .i64 0], some .journey⟩)]
theorem tOk_fareboxlaw17_ride : TOk Try.prog T_fareboxlaw17_ride := tOk_of (by kernel_rfl)
def sp_fareboxlaw17_ride : Spec := fun args hp => match args, hp with
  | [.val (.int .i64 op), .val (.int .i64 seq)], [] => .ok (svJourney (ride17 op seq)) []
  | _, _ => .fail "fareboxlaw17_ride"
abbrev k_fareboxlaw17_ride : List (Option RK) := [none, none]
def a_fareboxlaw17_ride : List SV → List (Nat × VB) → Anns := fun _ _ => []
set_option maxHeartbeats 20000000 in
theorem ok_fareboxlaw17_ride : GOk Try.prog 44 (lift k_fareboxlaw17_ride sp_fareboxlaw17_ride) := by
  refine pf_ok (T := T_fareboxlaw17_ride) (Γ := []) tOk_fareboxlaw17_ride (gOks_nil _) mixed Try.func44 (c := body Try.f44) (by kernel_rfl) (by kernel_rfl) k_fareboxlaw17_ride sp_fareboxlaw17_ride (by kernel_rfl) (by kernel_rfl) a_fareboxlaw17_ride ?_
  intro args hp s u hfit h
  unfold sp_fareboxlaw17_ride at h
  split at h
  · rename_i op seq
    obtain ⟨rfl, rfl⟩ := h.ok
    clear h hfit
    conv => whnf
    repeat' (first
      | (refine And.intro ?_ ?_ <;> try conv => whnf)
      | (intro hh; first | (cases hh; done) | conv => whnf))
    all_goals try first | rfl | kernel_rfl
    all_goals try simp only [decide_eq_true_eq, decide_eq_false_iff_not] at *
    all_goals try simp only [Key_eta, Share_eta, Journey_eta, Batch_eta, FieldT_eta, OpB_eta, Product_eta, Key_beq, Share_beq, Journey_beq, FieldT_beq, Product_beq, toNat0, toNat1, toNat2, toNat3, toNat4, toNat5, toNat6, toNat7, toNat8, toNat9, toNat10, toNat11, toNat12, toNat13, toNat14, toNat15, toNat16, toNat17, toNat18, toNat19, iA, iOf, atS, rwA, castK, zK, true_and, and_true, decide_eq_true_eq, decide_eq_false_iff_not, beq_iff_eq, bne_iff_ne, beq_eq_false_iff_ne, bne_eq_false_iff_eq, Bool.not_eq_true', Bool.not_eq_false', Bool.not_eq_true, Bool.not_eq_false, Nat.succ_eq_add_one, Int.not_lt, Int.not_le, gt_iff_lt, ge_iff_le] at *
    exact Res.mk (by simp [ride17])
  · exact h.fail.elim

def T_fareboxlaw17_awake : TT := [(3, ⟨.int .i64, 1, 8, [.int .i64 0], some .int⟩),
  (4, ⟨.bool, 1, 1, [.bool false], some .bool⟩),
  (5, ⟨.int .u8, 1, 1, [.int .u8 0], some .u8⟩),
  (27, ⟨.int .i64, 1, 8, [.int .i64 0], none⟩),
  (40, ⟨.int .i64, 1, 8, [.int .i64 0], none⟩),
  (54, ⟨.slice 73, 1, 24, [.slice none 0 0], none⟩),
  (56, ⟨.strct [(0, 3), (1, 3), (2, 54)], 3, 40, [.int .i64 0, .int .i64 0, .slice none 0 0], some .batch⟩),
  (57, ⟨.slice 5, 1, 24, [.slice none 0 0], none⟩),
  (68, ⟨.ptr, 1, 8, [.pointer none], none⟩),
  (73, ⟨.strct [(0, 3), (1, 3), (2, 3), (3, 3), (4, 3), (5, 40), (6, 3), (7, 3), (8, 3), (9, 3)], 10, 80, [.int .i64 0, .int .i64 0, .int .i64 0, .int .i64 0, .int .i64 0, .int .i64 0, .int .i64 0, .int .i64 0, .int .i64 0, .int .i64 0], some .journey⟩)]
theorem tOk_fareboxlaw17_awake : TOk Try.prog T_fareboxlaw17_awake := tOk_of (by kernel_rfl)
def sp_fareboxlaw17_awake : Spec := fun args hp => match args, hp with
  | [], [] => .ok (bv true) []
  | _, _ => .fail "fareboxlaw17_awake"
abbrev k_fareboxlaw17_awake : List (Option RK) := []
def a_fareboxlaw17_awake : List SV → List (Nat × VB) → Anns := fun _ _ => []
set_option maxHeartbeats 20000000 in
theorem ok_fareboxlaw17_awake : GOk Try.prog 41 (lift k_fareboxlaw17_awake sp_fareboxlaw17_awake) := by
  refine pf_ok (T := T_fareboxlaw17_awake) (Γ := (42, lift k_batch_New sp_batch_New) :: (43, lift k_batch_Book_Accept sp_batch_Book_Accept) :: (46, lift k_batch_Book_Pack sp_batch_Book_Pack) :: (47, lift k_batch_Book_Last sp_batch_Book_Last) :: (72, lift k_batch_Book_Form sp_batch_Book_Form) :: (44, lift k_fareboxlaw17_ride sp_fareboxlaw17_ride) :: (49, lift k_batch_Book_AckN sp_batch_Book_AckN) :: []) tOk_fareboxlaw17_awake (gOks_cons ok_batch_New (gOks_cons ok_batch_Book_Accept (gOks_cons ok_batch_Book_Pack (gOks_cons ok_batch_Book_Last (gOks_cons ok_batch_Book_Form (gOks_cons ok_fareboxlaw17_ride (gOks_cons ok_batch_Book_AckN (gOks_nil _)))))))) mixed Try.func41 (c := body Try.f41) (by kernel_rfl) (by kernel_rfl) k_fareboxlaw17_awake sp_fareboxlaw17_awake (by kernel_rfl) (by kernel_rfl) a_fareboxlaw17_awake ?_
  intro args hp s u hfit h
  unfold sp_fareboxlaw17_awake at h
  split at h
  · skip
    obtain ⟨rfl, rfl⟩ := h.ok
    clear h hfit
    conv => whnf
    repeat' (first
      | (refine And.intro ?_ ?_ <;> try conv => whnf)
      | (intro hh; first | (cases hh; done) | conv => whnf))
    all_goals try first | rfl | kernel_rfl
    all_goals try simp only [decide_eq_true_eq, decide_eq_false_iff_not] at *
    all_goals try simp only [Key_eta, Share_eta, Journey_eta, Batch_eta, FieldT_eta, OpB_eta, Product_eta, Key_beq, Share_beq, Journey_beq, FieldT_beq, Product_beq, toNat0, toNat1, toNat2, toNat3, toNat4, toNat5, toNat6, toNat7, toNat8, toNat9, toNat10, toNat11, toNat12, toNat13, toNat14, toNat15, toNat16, toNat17, toNat18, toNat19, iA, iOf, atS, rwA, castK, zK, true_and, and_true, decide_eq_true_eq, decide_eq_false_iff_not, beq_iff_eq, bne_iff_ne, beq_eq_false_iff_ne, bne_eq_false_iff_eq, Bool.not_eq_true', Bool.not_eq_false', Bool.not_eq_true, Bool.not_eq_false, Nat.succ_eq_add_one, Int.not_lt, Int.not_le, gt_iff_lt, ge_iff_le, show bytesS T_fareboxlaw17_awake 54 = 80 from rfl, show bytesS T_fareboxlaw17_awake 57 = 1 from rfl] at *
    all_goals (
      obtain ⟨a1, a2, a3, a4, a5, a6, a7, a8⟩ := awk17
      obtain ⟨b1, b2, b3, b4, b5, b6, b7, b8, b9⟩ := awk17b
      simp only [a1, a2, a3, a4, a5, a6, a7, a8, b1, b2, b3, b4, b5, b6, b7, b8, b9] at *)
    all_goals first
      | exact Res.mk trivial
      | exact Res.mk rfl
      | exact Vc.mk (by decide)
      | (refine Vc.mk ?_; simp; done)
      | (exfalso; simp at *; done)
  · exact h.fail.elim

def T_fareboxlaw17_BatchOrder : TT := [(3, ⟨.int .i64, 1, 8, [.int .i64 0], some .int⟩),
  (4, ⟨.bool, 1, 1, [.bool false], some .bool⟩),
  (24, ⟨.slice 3, 1, 24, [.slice none 0 0], none⟩),
  (27, ⟨.int .i64, 1, 8, [.int .i64 0], none⟩),
  (40, ⟨.int .i64, 1, 8, [.int .i64 0], none⟩),
  (54, ⟨.slice 73, 1, 24, [.slice none 0 0], none⟩),
  (56, ⟨.strct [(0, 3), (1, 3), (2, 54)], 3, 40, [.int .i64 0, .int .i64 0, .slice none 0 0], some .batch⟩),
  (68, ⟨.ptr, 1, 8, [.pointer none], none⟩),
  (73, ⟨.strct [(0, 3), (1, 3), (2, 3), (3, 3), (4, 3), (5, 40), (6, 3), (7, 3), (8, 3), (9, 3)], 10, 80, [.int .i64 0, .int .i64 0, .int .i64 0, .int .i64 0, .int .i64 0, .int .i64 0, .int .i64 0, .int .i64 0, .int .i64 0, .int .i64 0], some .journey⟩)]
theorem tOk_fareboxlaw17_BatchOrder : TOk Try.prog T_fareboxlaw17_BatchOrder := tOk_of (by kernel_rfl)
def sp_fareboxlaw17_BatchOrder : Spec := fun args hp => match args, hp with
  | [.val (.int .i64 op), .val (.int .i64 n), .slF 0], [(0, .row o_goes .int goes)] => .vc (goes.length ≤ 1048576 ∧ (-9223372036854775808 ≤ op ∧ op ≤ 9223372036854775807) ∧ (-9223372036854775808 ≤ n ∧ n ≤ 9223372036854775807) ∧ ∀ x ∈ goes, -9223372036854775808 ≤ x ∧ x ≤ 9223372036854775807) (bv true) []
  | _, _ => .fail "fareboxlaw17_BatchOrder"
abbrev k_fareboxlaw17_BatchOrder : List (Option RK) := [none, none, some .int]
def a_fareboxlaw17_BatchOrder : List SV → List (Nat × VB) → Anns := fun args hp => match args, hp with
  | [.val (.int .i64 op), .val (.int .i64 n), .slF 0], [(0, .row o_goes .int goes)] => [(10, fun S => .inv [pOf (S.get 8)] [cellOf S (pOf (S.get 8)) 0, cellOf S (pOf (S.get 8)) 2, cellOf S (pOf (S.get 8)) 4, S.get 10] [] fun ids vs rs => { cars := [.i 12 .i64, .i 11 .i64, .blk (atN ids 0) [.fix ((atS vs 0)), .i .i64, .fix ((atS vs 1)), .r true .journey, .fix ((atS vs 2))]], inv := fun ((i, seq, (_, last, _, loose, _, _), _) : Int × Int × (Unit × Int × Unit × List Journey × Unit × Unit) × Unit) => IB1 ((iA vs 3)) i seq last loose, mu := fun ((i, seq, (_, last, _, loose, _, _), _) : Int × Int × (Unit × Int × Unit × List Journey × Unit × Unit) × Unit) => ((iA vs 3) - i).toNat }),
    (21, fun S => .inv [pOf (S.get 8), pOf (S.get 14)] [cellOf S (pOf (S.get 8)) 0, cellOf S (pOf (S.get 8)) 1, S.get 10] [] fun ids vs rs => { cars := [.i 16 .i64, .r 15 true .journey, .blk (atN ids 0) [.fix ((atS vs 0)), .fix ((atS vs 1)), .i .i64, .r true .journey, .r true .batch], .row (atN ids 1) true .journey], inv := fun ((i, got, (_, _, n, loose, open_, _), all, _) : Int × List Journey × (Unit × Unit × Int × List Journey × List Batch × Unit) × List Journey × Unit) => IB2 ((iA vs 2)) i got n loose open_ all, mu := fun ((i, got, (_, _, n, loose, open_, _), all, _) : Int × List Journey × (Unit × Unit × Int × List Journey × List Batch × Unit) × List Journey × Unit) => (11 - i).toNat })]
  | _, _ => []
set_option maxHeartbeats 20000000 in
theorem ok_fareboxlaw17_BatchOrder : GOk Try.prog 10 (lift k_fareboxlaw17_BatchOrder sp_fareboxlaw17_BatchOrder) := by
  refine pf_ok (T := T_fareboxlaw17_BatchOrder) (Γ := (42, lift k_batch_New sp_batch_New) :: (43, lift k_batch_Book_Accept sp_batch_Book_Accept) :: (46, lift k_batch_Book_Pack sp_batch_Book_Pack) :: (47, lift k_batch_Book_Last sp_batch_Book_Last) :: (72, lift k_batch_Book_Form sp_batch_Book_Form) :: (44, lift k_fareboxlaw17_ride sp_fareboxlaw17_ride) :: (41, lift k_fareboxlaw17_awake sp_fareboxlaw17_awake) :: (45, lift k_batch_Book_Loose sp_batch_Book_Loose) :: (39, lift k_fareboxref13_Same sp_fareboxref13_Same) :: []) tOk_fareboxlaw17_BatchOrder (gOks_cons ok_batch_New (gOks_cons ok_batch_Book_Accept (gOks_cons ok_batch_Book_Pack (gOks_cons ok_batch_Book_Last (gOks_cons ok_batch_Book_Form (gOks_cons ok_fareboxlaw17_ride (gOks_cons ok_fareboxlaw17_awake (gOks_cons ok_batch_Book_Loose (gOks_cons ok_fareboxref13_Same (gOks_nil _)))))))))) mixed Try.func10 (c := body Try.f10) (by kernel_rfl) (by kernel_rfl) k_fareboxlaw17_BatchOrder sp_fareboxlaw17_BatchOrder (by kernel_rfl) (by kernel_rfl) a_fareboxlaw17_BatchOrder ?_
  intro args hp s u hfit h
  unfold sp_fareboxlaw17_BatchOrder at h
  split at h
  · rename_i op n o_goes goes
    obtain ⟨hvc, rfl, rfl⟩ := h.vc
    clear h hfit
    change List Int at goes
    conv => whnf
    repeat' (first
      | (refine And.intro ?_ ?_ <;> try conv => whnf)
      | (intro hh; first | (cases hh; done) | conv => whnf))
    all_goals try first | rfl | kernel_rfl
    all_goals try simp only [decide_eq_true_eq, decide_eq_false_iff_not] at *
    all_goals try simp only [Key_eta, Share_eta, Journey_eta, Batch_eta, FieldT_eta, OpB_eta, Product_eta, Key_beq, Share_beq, Journey_beq, FieldT_beq, Product_beq, toNat0, toNat1, toNat2, toNat3, toNat4, toNat5, toNat6, toNat7, toNat8, toNat9, toNat10, toNat11, toNat12, toNat13, toNat14, toNat15, toNat16, toNat17, toNat18, toNat19, iA, iOf, atS, rwA, castK, zK, true_and, and_true, decide_eq_true_eq, decide_eq_false_iff_not, beq_iff_eq, bne_iff_ne, beq_eq_false_iff_ne, bne_eq_false_iff_eq, Bool.not_eq_true', Bool.not_eq_false', Bool.not_eq_true, Bool.not_eq_false, Nat.succ_eq_add_one, Int.not_lt, Int.not_le, gt_iff_lt, ge_iff_le, show bytesS T_fareboxlaw17_BatchOrder 24 = 8 from rfl, show bytesS T_fareboxlaw17_BatchOrder 54 = 80 from rfl] at *
    all_goals obtain ⟨hL, ⟨o1, o2⟩, ⟨n1, n2⟩, hG⟩ := hvc
    all_goals (
      have p4 := pmB (a := op) (m := 4) (by decide) (by decide)
      have p60 := pmB (a := n) (m := 60) (by decide) (by decide)
      generalize (IntKind.i64.wrap (op.tmod 4 + 4)).tmod 4 = o at *
      generalize (IntKind.i64.wrap (n.tmod 60 + 60)).tmod 60 = k at *
      try rw [wrap64 (n := 1 + o) (by omega) (by omega)] at *)
    all_goals try (
      have q2 := ‹IB2 _ _ _ _ _ _ _›
      obtain ⟨c1, c2, c3, c4, c5, c6, c7, c8, c9, c10, c11, c12, c13, c14⟩ := ib2_facts (o := 1 + o) q2
      (try (have hc := ‹canP _ _ = false›; obtain ⟨d1, d2, d3⟩ := c10 hc))
      (try (have hc := ‹canP _ _ = true›; obtain ⟨e1, e2, e3, e4, e5⟩ := c9 hc))
      (try (have hc := (‹_› : (10 : Int) < _); obtain ⟨g1, g2⟩ := c11 hc)))
    all_goals try (
      have q1 := ‹IB1 _ _ _ _ _›
      obtain ⟨h1, h2, h3, h4, h5, h6, h7⟩ := q1)
    all_goals try (refine Vc.mk ?_; omega)
    all_goals try (refine Vc.mk ⟨by simp, ?_⟩; omega)
    all_goals try (exact Res.mk h4)
    all_goals try (refine Res.mk ?_; exfalso; omega)
    all_goals try (refine Res.mk ?_; exfalso; exact ‹_ ≠ _› c7)
    all_goals try (refine Res.mk ?_; exfalso; exact ‹_ ≠ _› e1)
    all_goals try (refine Res.mk ?_; exfalso; exact ‹_ ≠ _› e2)
    all_goals try (refine Res.mk ?_; exfalso; exact ‹_ ≠ _› d1)
    all_goals try (refine Res.mk ?_; exfalso; exact ‹_ ≠ _› g1)
    all_goals try (refine Res.mk ?_; exfalso; exact ‹_ ≠ _› (by rw [d2]; rfl))
    all_goals try (refine Res.mk ?_; exfalso; exact ‹_ ≠ _› (by rw [g2]; rfl))
    all_goals try (
      have q1 := ‹IB1 _ _ _ _ _›
      have qi := (‹_› : _ < k)
      first
      | (have e := ib1_more (o := 1 + o) (d := 1) q1 (by omega) (by omega) (by decide) (by decide) qi
         first
         | exact ⟨e.2.2.2.1, e.2.2.2.2⟩
         | (refine Res.mk ?_; exfalso; exact ‹_ ≠ _› e.2.2.1))
      | (have e := fun x => ib1_more (o := 1 + o) q1 (by omega) (by omega) (dB x).1 (dB x).2 qi
         first
         | exact ⟨(e _).2.2.2.1, (e 0).2.2.2.2⟩
         | (refine Res.mk ?_; exfalso; exact ‹_ ≠ _› (e _).2.2.1)))
    all_goals try (refine Res.mk ?_; exfalso; have hx := ‹IntKind.i64.wrap _ ≠ _›; rw [wrap64 (by omega) (by omega)] at hx; omega)
    all_goals try (refine Res.mk ?_; exfalso; have hx := (‹_› : (_ : List Journey) ≠ _); first | exact hx d1 | exact hx g1)
    · exact ⟨⟨by omega, by omega, by omega, rfl, rfl, by omega, by omega⟩⟩
    · exact ⟨ib2_zero ‹IB1 _ _ _ _ _› (by omega)⟩
    · rw [wrap64 (by omega) (by omega)]
      exact ⟨e5 (by omega), by omega⟩
    · rw [wrap64 (by omega) (by omega)]
      exact ⟨e5 (by omega), by omega⟩
  · exact h.fail.elim

end Go.Proofs.Ytncdakkigkmfjaa.Sx
