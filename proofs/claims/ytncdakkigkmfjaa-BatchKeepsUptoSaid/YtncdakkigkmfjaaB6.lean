import Derived.Test.YtncdakkigkmfjaaProg
import Derived.Test.YtncdakkigkmfjaaSxU
import Derived.IntWalk
import Derived.Test.YtncdakkigkmfjaaB6r
/-! fareboxlaw17, BatchKeeps -/
namespace Go.Proofs.Ytncdakkigkmfjaa.Sx
open Go
set_option linter.unusedVariables false
set_option linter.unusedSimpArgs false
set_option maxRecDepth 100000

def T_fareboxlaw17_BatchKeeps : TT := [(3, ⟨.int .i64, 1, 8, [.int .i64 0], some .int⟩),
  (4, ⟨.bool, 1, 1, [.bool false], some .bool⟩),
  (27, ⟨.int .i64, 1, 8, [.int .i64 0], none⟩),
  (40, ⟨.int .i64, 1, 8, [.int .i64 0], none⟩),
  (54, ⟨.slice 73, 1, 24, [.slice none 0 0], none⟩),
  (56, ⟨.strct [(0, 3), (1, 3), (2, 54)], 3, 40, [.int .i64 0, .int .i64 0, .slice none 0 0], some .batch⟩),
  (68, ⟨.ptr, 1, 8, [.pointer none], none⟩),
  (73, ⟨.strct [(0, 3), (1, 3), (2, 3), (3, 3), (4, 3), (5, 40), (6, 3), (7, 3), (8, 3), (9, 3)], 10, 80, [.int .i64 0, .int .i64 0, .int .i64 0, .int .i64 0, .int .i64 0, .int .i64 0, .int .i64 0, .int .i64 0, .int .i64 0, .int .i64 0], some .journey⟩),
  (80, ⟨.slice 82, 1, 24, [.slice none 0 0], none⟩),
  (82, ⟨.strct [(0, 3), (1, 3), (2, 54)], 3, 40, [.int .i64 0, .int .i64 0, .slice none 0 0], some .opB⟩),
  (83, ⟨.slice 56, 1, 24, [.slice none 0 0], none⟩)]
theorem tOk_fareboxlaw17_BatchKeeps : TOk Try.prog T_fareboxlaw17_BatchKeeps := tOk_of (by kernel_rfl)
def sp_fareboxlaw17_BatchKeeps : Spec := fun args hp => match args, hp with
  | [.val (.int .i64 op), .slF 0], [(0, .row o_script .opB script)] => .vc ((-9223372036854775808 ≤ op ∧ op ≤ 9223372036854775807) ∧ script.length ≤ 1048576 ∧ (script.map (·.js.length)).sum ≤ 1048576) (bv true) []
  | _, _ => .fail "fareboxlaw17_BatchKeeps"
abbrev k_fareboxlaw17_BatchKeeps : List (Option RK) := [none, some .opB]
def a_fareboxlaw17_BatchKeeps : List SV → List (Nat × VB) → Anns := fun args hp => match args, hp with
  | [.val (.int .i64 op), .slF 0], [(0, .row o_script .opB script)] => [(9, fun S => .inv [pOf (S.get 5)] [cellOf S (pOf (S.get 5)) 0] [] fun ids vs rs => { cars := [.i 9 .i64, .i 8 .i64, .r 7 true .journey, .blk (atN ids 0) [.fix ((atS vs 0)), .i .i64, .i .i64, .r true .journey, .r true .batch]], inv := fun ((i, cnt, owed, (_, last, n, loose, open_, _), _) : Int × Int × List Journey × (Unit × Int × Int × List Journey × List Batch × Unit) × Unit) => IKe script i cnt owed last n loose open_, mu := fun ((i, cnt, owed, (_, last, n, loose, open_, _), _) : Int × Int × List Journey × (Unit × Int × Int × List Journey × List Batch × Unit) × Unit) => 80 - i.toNat }),
    (27, fun S => .inv [] [cellOf S (pOf (S.get 10)) 1] [pOf (S.get 13), pOf (S.get 7)] fun ids vs rs => { cars := [.i 15 .i64, .r 14 true .journey], inv := fun ((k, rest, _) : Int × List Journey × Unit) => IK27 (iOf (atS vs 0)) (rwA .batch rs 0) (rwA .journey rs 1) k rest, mu := fun ((k, rest, _) : Int × List Journey × Unit) => (rwA .batch rs 0).length - k.toNat }),
    (31, fun S => .inv [] [S.get 15] [pOf (S.get 13), pOf (S.get 7), pOf (S.get 14)] fun ids vs rs => { cars := [.i 16 .i64, .r 14 true .journey], inv := fun ((j, rest, _) : Int × List Journey × Unit) => IK31 ((rwA .batch rs 0).getD ((iA vs 0)).toNat ⟨0, 0, []⟩).js (rwA .journey rs 1) (rwA .journey rs 2) j rest, mu := fun ((j, rest, _) : Int × List Journey × Unit) => (rwA .journey rs 1).length - j.toNat }),
    (35, fun S => .inv [] [S.get 15, S.get 16] [pOf (S.get 13), pOf (S.get 7)] fun ids vs rs => { cars := [.i 18 .i64, .b 17], inv := fun ((z, gone, _) : Int × Bool × Unit) => IK35 ((rwA .batch rs 0).getD ((iA vs 0)).toNat ⟨0, 0, []⟩).js ((rwA .journey rs 1).getD ((iA vs 1)).toNat zJ) z gone, mu := fun ((z, gone, _) : Int × Bool × Unit) => ((rwA .batch rs 0).getD ((iA vs 0)).toNat ⟨0, 0, []⟩).js.length - z.toNat }),
    (46, fun S => .inv [] [] [pOf (S.get 20)] fun ids vs rs => { cars := [.i 21 .i64, .r 19 true .journey], inv := fun ((k, now, _) : Int × List Journey × Unit) => IK46 (rwA .batch rs 0) k now, mu := fun ((k, now, _) : Int × List Journey × Unit) => (rwA .batch rs 0).length - k.toNat })]
  | _, _ => []
set_option maxHeartbeats 20000000 in
theorem ok_fareboxlaw17_BatchKeeps : GOk Try.prog 11 (lift k_fareboxlaw17_BatchKeeps sp_fareboxlaw17_BatchKeeps) := by
  refine pf_ok (T := T_fareboxlaw17_BatchKeeps) (Γ := (41, lift k_fareboxlaw17_awake sp_fareboxlaw17_awake) :: (42, lift k_batch_New sp_batch_New) :: (43, lift k_batch_Book_Accept sp_batch_Book_Accept) :: (46, lift k_batch_Book_Pack sp_batch_Book_Pack) :: (48, lift k_batch_Book_Open sp_batch_Book_Open) :: (49, lift k_batch_Book_Ack sp_batch_Book_Ack) :: (45, lift k_batch_Book_Loose sp_batch_Book_Loose) :: (39, lift k_fareboxref13_Same sp_fareboxref13_Same) :: []) tOk_fareboxlaw17_BatchKeeps (gOks_cons ok_fareboxlaw17_awake (gOks_cons ok_batch_New (gOks_cons ok_batch_Book_Accept (gOks_cons ok_batch_Book_Pack (gOks_cons ok_batch_Book_Open (gOks_cons ok_batch_Book_Ack (gOks_cons ok_batch_Book_Loose (gOks_cons ok_fareboxref13_Same (gOks_nil _))))))))) mixed Try.func11 (c := body Try.f11) (by kernel_rfl) (by kernel_rfl) k_fareboxlaw17_BatchKeeps sp_fareboxlaw17_BatchKeeps (by kernel_rfl) (by kernel_rfl) a_fareboxlaw17_BatchKeeps ?_
  intro args hp s u hfit h
  unfold sp_fareboxlaw17_BatchKeeps at h
  split at h
  · rename_i op o_script script
    obtain ⟨hvc, rfl, rfl⟩ := h.vc
    clear h hfit
    change List OpB at script
    conv => whnf
    repeat' (first
      | (refine And.intro ?_ ?_ <;> try conv => whnf)
      | (intro hh; first | (cases hh; done) | conv => whnf))
    all_goals try first | rfl | kernel_rfl
    all_goals try simp only [decide_eq_true_eq, decide_eq_false_iff_not] at *
    all_goals try simp only [Key_eta, Share_eta, Journey_eta, Batch_eta, FieldT_eta, OpB_eta, Product_eta, Key_beq, Share_beq, Journey_beq, FieldT_beq, Product_beq, toNat0, toNat1, toNat2, toNat3, toNat4, toNat5, toNat6, toNat7, toNat8, toNat9, toNat10, toNat11, toNat12, toNat13, toNat14, toNat15, toNat16, toNat17, toNat18, toNat19, iA, iOf, atS, rwA, castK, zK, true_and, and_true, decide_eq_true_eq, decide_eq_false_iff_not, beq_iff_eq, bne_iff_ne, beq_eq_false_iff_ne, bne_eq_false_iff_eq, Bool.not_eq_true', Bool.not_eq_false', Bool.not_eq_true, Bool.not_eq_false, Nat.succ_eq_add_one, Int.not_lt, Int.not_le, gt_iff_lt, ge_iff_le, show bytesS T_fareboxlaw17_BatchKeeps 54 = 80 from rfl, show bytesS T_fareboxlaw17_BatchKeeps 80 = 40 from rfl, show bytesS T_fareboxlaw17_BatchKeeps 83 = 40 from rfl] at *
    all_goals (try obtain ⟨hop, hsl, hsum⟩ := hvc)
    all_goals try (exact Vc.mk (by decide))
    all_goals try (exact Res.mk trivial)
    all_goals try (exact ⟨ik46_zero _⟩)
    all_goals try (exact ⟨ik27_zero _ _ _⟩)
    all_goals try (exact ⟨ik31_zero _ _ _⟩)
    all_goals try (exact ⟨ik35_zero _ _⟩)
    all_goals try (exact ⟨ike_zero hsum⟩)
    all_goals try (
      have q := ‹IKe _ _ _ _ _ _ _ _›
      have e := ike_facts (IntKind.i64.wrap (1 + (IntKind.i64.wrap (op.tmod 4 + 4)).tmod 4)) q
      obtain ⟨⟨a1, a2, a3, a4, a5, a6⟩, ⟨b1, b2, b3, b4, b5, b6⟩, ⟨c1, c2⟩, ⟨d1, d2, d3, d4, d5⟩, ⟨e1, e2, e3⟩⟩ := e)
    all_goals try (
      have q2 := ‹IK46 _ _ _›
      have e := ik46_len q2
      specialize e (by assumption))
    all_goals try (
      have q2 := ‹IK46 _ _ _›
      have e := ik46_more q2
      specialize e (by assumption) (by omega) (by assumption)
      obtain ⟨f1, f2, f3, f4⟩ := e)
    all_goals try (exact ⟨f3, f4⟩)
    all_goals try (
      have q5 := ‹IK27 _ _ _ _ _›
      have g1 := ik27_pos q5
      have g2 := ik27_len q5 b3 b1)
    all_goals try (
      have q3 := ‹IK31 _ _ _ _ _›
      have g3 := ik31_pos q3
      have g4 := ik31_len q3)
    all_goals try (
      have q4 := ‹IK35 _ _ _ _›
      have g5 := ik35_pos q4)
    all_goals try (refine Vc.mk ?_; first | omega | exact ⟨by omega, by assumption⟩ | (simp only [List.length_append, List.length_cons, List.length_nil]; omega))
    · exact Vc.mk (op_range op)
    · exfalso
      have h := of_decide_eq_false ‹decide _ = false›
      refine h ?_
      rw [ik46_end q2 ‹_ ≤ _›]
      unfold accR
      rw [if_pos ‹accE _ _ _ = 0›, ← List.append_assoc, b6]
    · have e := ike_acc (o := (IntKind.i64.wrap (1 + (IntKind.i64.wrap (op.tmod 4 + 4)).tmod 4))) q ‹_› ‹_› ‹_›
      exact ⟨e.1, e.2⟩
    · exfalso
      have h := of_decide_eq_false ‹decide _ = false›
      refine h ?_
      rw [ik46_end q2 ‹_ ≤ _›]
      unfold accR
      rw [if_neg ‹accE _ _ _ ≠ 0›, b6]
    · have e := ike_ref (o := (IntKind.i64.wrap (1 + (IntKind.i64.wrap (op.tmod 4 + 4)).tmod 4))) q ‹_› ‹_› ‹_›
      exact ⟨e.1, e.2⟩
    · exact absurd (ike_pack _ q ‹_› ‹_› ‹_›).2.1 ‹_›
    · have e := (ike_pack (IntKind.i64.wrap (1 + (IntKind.i64.wrap (op.tmod 4 + 4)).tmod 4)) q ‹_› ‹_› ‹_›).2.2.1
      exfalso; omega
    · have e := (ike_pack (IntKind.i64.wrap (1 + (IntKind.i64.wrap (op.tmod 4 + 4)).tmod 4)) q ‹_› ‹_› ‹_›).2.2.2
      exfalso; omega
    · have h := ‹¬_ = _›
      refine absurd ?_ h
      rw [ik46_end q2 ‹_ ≤ _›]
      exact d5
    · have e := (ike_pack (IntKind.i64.wrap (1 + (IntKind.i64.wrap (op.tmod 4 + 4)).tmod 4)) q ‹_› ‹_› ‹_›).1
      exact ⟨e.1, e.2⟩
    · have h := ‹¬_ = _›
      refine absurd ?_ h
      rw [ik46_end q2 ‹_ ≤ _›]
      exact d5
    · have e := (ike_nopack (IntKind.i64.wrap (1 + (IntKind.i64.wrap (op.tmod 4 + 4)).tmod 4)) q ‹_› ‹_› ‹_›)
      exact ⟨e.1, e.2⟩
    · have e := ike_noack q ‹_› ‹_› ‹_›
      exact ⟨e.1, e.2⟩
    · have e := ik27_skip q5 ‹_› b3 ‹_›
      exact ⟨e.1, e.2⟩
    · have e := ik35_t q4 ‹_› (b4 _ (mem_getD (by omega))) ‹_›
      exact ⟨e.1, e.2⟩
    · have e := ik35_f q4 ‹_› (b4 _ (mem_getD (by omega))) ‹_›
      exact ⟨e.1, e.2⟩
    · have e := ik31_add q3 ‹_› b1 q4 ‹_› ‹_›
      exact ⟨e.1, e.2⟩
    · have e := ik31_gone q3 ‹_› b1 q4 ‹_› ‹_›
      exact ⟨e.1, e.2⟩
    · exact absurd (ik27_full q q5 ‹_› ‹_› q3 ‹_›) ‹_›
    · have e := ik27_take q5 ‹_› b3 ‹_› q3 ‹_›
      exact ⟨e.1, e.2⟩
    · have h := ‹¬_ = _›
      refine absurd ?_ h
      rw [ik46_end q2 ‹_ ≤ _›]
      exact (ike_ack q ‹_› ‹_› ‹ackE _ _ = 0› q5 ‹_›).2.1
    · have e := (ike_ack q ‹_› ‹_› ‹ackE _ _ = 0› q5 ‹_›).1
      exact ⟨e.1, e.2⟩
    · have h := ‹¬_ = _›
      refine absurd ?_ h
      rw [ik46_end q2 ‹_ ≤ _›]
      exact b6
    · have e := ike_next q ‹_› ‹_›
      exact ⟨e.1, e.2⟩
  · exact h.fail.elim

end Go.Proofs.Ytncdakkigkmfjaa.Sx
