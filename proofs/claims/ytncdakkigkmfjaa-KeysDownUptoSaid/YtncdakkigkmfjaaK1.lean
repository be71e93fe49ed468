import Derived.Test.YtncdakkigkmfjaaProg
import Derived.Test.YtncdakkigkmfjaaSxU
import Derived.IntWalk
import Derived.Test.YtncdakkigkmfjaaK1s2
/-! keys -/
namespace Go.Proofs.Ytncdakkigkmfjaa.Sx
open Go
set_option linter.unusedVariables false
set_option linter.unusedSimpArgs false
set_option maxRecDepth 100000

def T_keys_Parent : TT := [(3, ⟨.int .i64, 1, 8, [.int .i64 0], some .int⟩),
  (4, ⟨.bool, 1, 1, [.bool false], some .bool⟩),
  (23, ⟨.strct [(0, 3), (1, 3), (2, 3), (3, 3)], 4, 32, [.int .i64 0, .int .i64 0, .int .i64 0, .int .i64 0], some .key⟩),
  (27, ⟨.int .i64, 1, 8, [.int .i64 0], none⟩)]
theorem tOk_keys_Parent : TOk Try.prog T_keys_Parent := tOk_of (by kernel_rfl)
def sp_keys_Parent : Spec := fun args hp => match args, hp with
  | [.agg k_cs], [] => (match decS .key k_cs with
    | some k => .ok (.tup [svKey (parent k).1, iv (parent k).2]) []
    | none => .fail "struct")
  | _, _ => .fail "keys_Parent"
abbrev k_keys_Parent : List (Option RK) := [none]
def a_keys_Parent : List SV → List (Nat × VB) → Anns := fun _ _ => []
set_option maxHeartbeats 20000000 in
theorem ok_keys_Parent : GOk Try.prog 18 (lift k_keys_Parent sp_keys_Parent) := by
  refine pf_ok (T := T_keys_Parent) (Γ := (23, lift k_keys_Level sp_keys_Level) :: (60, lift k_keys_at sp_keys_at) :: []) tOk_keys_Parent (gOks_cons ok_keys_Level (gOks_cons ok_keys_at (gOks_nil _))) mixed Try.func18 (c := body Try.f18) (by kernel_rfl) (by kernel_rfl) k_keys_Parent sp_keys_Parent (by kernel_rfl) (by kernel_rfl) a_keys_Parent ?_
  intro args hp s u hfit h
  unfold sp_keys_Parent at h
  split at h
  · rename_i k_cs
    split at h
    case h_2 => exact h.fail.elim
    rename_i k h_k
    obtain rfl := decS_ok (k := .key) rfl h_k
    clear h_k
    change Key at k
    obtain ⟨rfl, rfl⟩ := h.ok
    clear h hfit
    conv => whnf
    repeat' (first
      | (refine And.intro ?_ ?_ <;> try conv => whnf)
      | (intro hh; first | (cases hh; done) | conv => whnf))
    all_goals try first | rfl | kernel_rfl
    all_goals try simp only [Key_eta, Share_eta, Journey_eta, Batch_eta, FieldT_eta, OpB_eta, Product_eta, Key_beq, Share_beq, Journey_beq, FieldT_beq, Product_beq, toNat0, toNat1, toNat2, toNat3, toNat4, toNat5, toNat6, toNat7, toNat8, toNat9, toNat10, toNat11, toNat12, toNat13, toNat14, toNat15, toNat16, toNat17, toNat18, toNat19, iA, iOf, atS, zK, true_and, and_true, decide_eq_true_eq, decide_eq_false_iff_not, beq_iff_eq, bne_iff_ne, beq_eq_false_iff_ne, bne_eq_false_iff_eq, Bool.not_eq_true', Bool.not_eq_false', Bool.not_eq_true, Bool.not_eq_false, Nat.succ_eq_add_one, Int.not_lt, Int.not_le, gt_iff_lt, ge_iff_le] at *
    all_goals have hr := level_range k
    all_goals try simp (disch := omega) only [wrap64] at *
    all_goals (refine ⟨?_⟩; unfold parent; (repeat' split) <;> first | omega | simp [zkey])
  · exact h.fail.elim

def T_keys_From : TT := [(3, ⟨.int .i64, 1, 8, [.int .i64 0], some .int⟩),
  (4, ⟨.bool, 1, 1, [.bool false], some .bool⟩),
  (23, ⟨.strct [(0, 3), (1, 3), (2, 3), (3, 3)], 4, 32, [.int .i64 0, .int .i64 0, .int .i64 0, .int .i64 0], some .key⟩),
  (25, ⟨.slice 23, 1, 24, [.slice none 0 0], none⟩),
  (27, ⟨.int .i64, 1, 8, [.int .i64 0], none⟩)]
theorem tOk_keys_From : TOk Try.prog T_keys_From := tOk_of (by kernel_rfl)
def sp_keys_From : Spec := fun args hp => match args, hp with
  | [.agg k_cs, .slF 0], [(0, .row o_above .key above)] => (match decS .key k_cs with
    | some k => .vc (above.length ≤ 1099511627776) (bv (fromK k above)) []
    | none => .fail "struct")
  | _, _ => .fail "keys_From"
abbrev k_keys_From : List (Option RK) := [none, some .key]
def a_keys_From : List SV → List (Nat × VB) → Anns := fun args hp => match args, hp with
  | [.agg k_cs, .slF 0], [(0, .row o_above .key above)] => (match decS .key k_cs with
    | some k => [(4, fun S => .inv [] [] fun ids vs => { cars := [.i 14 .i64], inv := fun ((i, _) : Int × Unit) => ∃ j : Nat, j ≤ above.length ∧ i = j ∧ right k = true ∧ (above.drop j).all (fun a => anc (level k).toNat k a) = above.all (fun a => anc (level k).toNat k a), mu := fun ((i, _) : Int × Unit) => above.length - i.toNat }),
    (7, fun S => .inv [] [S.get 14] fun ids vs => { cars := [.p 7 [.st .key]], inv := fun (((x, _), _) : (Key × Unit) × Unit) => ∃ n : Nat, level x = n ∧ anc n x (above.getD ((iA vs 0)).toNat zkey) = anc (level k).toNat k (above.getD ((iA vs 0)).toNat zkey), mu := fun (((x, _), _) : (Key × Unit) × Unit) => (level x).toNat })]
    | none => [])
  | _, _ => []
set_option maxHeartbeats 20000000 in
theorem ok_keys_From : GOk Try.prog 25 (lift k_keys_From sp_keys_From) := by
  refine pf_ok (T := T_keys_From) (Γ := (22, lift k_keys_Right sp_keys_Right) :: (18, lift k_keys_Parent sp_keys_Parent) :: []) tOk_keys_From (gOks_cons ok_keys_Right (gOks_cons ok_keys_Parent (gOks_nil _))) mixed Try.func25 (c := body Try.f25) (by kernel_rfl) (by kernel_rfl) k_keys_From sp_keys_From (by kernel_rfl) (by kernel_rfl) a_keys_From ?_
  intro args hp s u hfit h
  unfold sp_keys_From at h
  split at h
  · rename_i k_cs o_above above
    split at h
    case h_2 => exact h.fail.elim
    rename_i k h_k
    obtain rfl := decS_ok (k := .key) rfl h_k
    clear h_k
    change Key at k
    obtain ⟨hvc, rfl, rfl⟩ := h.vc
    clear h hfit
    change List Key at above
    conv => whnf
    repeat' (first
      | (refine And.intro ?_ ?_ <;> try conv => whnf)
      | (intro hh; first | (cases hh; done) | conv => whnf))
    all_goals try first | rfl | kernel_rfl
    all_goals try simp only [Key_eta, Share_eta, Journey_eta, Batch_eta, FieldT_eta, OpB_eta, Product_eta, Key_beq, Share_beq, Journey_beq, FieldT_beq, Product_beq, toNat0, toNat1, toNat2, toNat3, toNat4, toNat5, toNat6, toNat7, toNat8, toNat9, toNat10, toNat11, toNat12, toNat13, toNat14, toNat15, toNat16, toNat17, toNat18, toNat19, iA, iOf, atS, zK, true_and, and_true, decide_eq_true_eq, decide_eq_false_iff_not, beq_iff_eq, bne_iff_ne, beq_eq_false_iff_ne, bne_eq_false_iff_eq, Bool.not_eq_true', Bool.not_eq_false', Bool.not_eq_true, Bool.not_eq_false, Nat.succ_eq_add_one, Int.not_lt, Int.not_le, gt_iff_lt, ge_iff_le, zkey] at *
    · (refine ⟨?_⟩; simp [fromK, *])
    · exact ⟨⟨0, Nat.zero_le _, rfl, ‹_›, by simp⟩⟩
    · obtain ⟨j, hj, rfl, hr, ha⟩ := ‹∃ j : Nat, j ≤ _ ∧ _ = _ ∧ _ ∧ _›
      have hk := level_right.2 hr
      try simp (disch := omega) only [wrap64, Int.toNat_natCast] at *
      exact ⟨by omega⟩
    · obtain ⟨j, hj, rfl, hr, ha⟩ := ‹∃ j : Nat, j ≤ _ ∧ _ = _ ∧ _ ∧ _›
      have hk := level_right.2 hr
      try simp (disch := omega) only [wrap64, Int.toNat_natCast] at *
      exact ⟨by omega⟩
    · obtain ⟨j, hj, rfl, hr, ha⟩ := ‹∃ j : Nat, j ≤ _ ∧ _ = _ ∧ _ ∧ _›
      have hk := level_right.2 hr
      try simp (disch := omega) only [wrap64, Int.toNat_natCast] at *
      exact ⟨⟨(level k).toNat, by omega, rfl⟩⟩
    · obtain ⟨j, hj, rfl, hr, ha⟩ := ‹∃ j : Nat, j ≤ _ ∧ _ = _ ∧ _ ∧ _›
      have hk := level_right.2 hr
      try simp (disch := omega) only [wrap64, Int.toNat_natCast] at *
      obtain ⟨n, hn, hc⟩ := ‹∃ n : Nat, level _ = _ ∧ _›
      rcases n with _ | n
      · refine ⟨(from_false (j := j) (by omega) (hc.symm.trans ?_)).symm⟩
        exact decide_eq_false ‹_›
      · exfalso; have hp := parent_up hn; exact ‹(parent _).2 ≠ 0› (by rw [hp])
    · obtain ⟨j, hj, rfl, hr, ha⟩ := ‹∃ j : Nat, j ≤ _ ∧ _ = _ ∧ _ ∧ _›
      have hk := level_right.2 hr
      try simp (disch := omega) only [wrap64, Int.toNat_natCast] at *
      obtain ⟨n, hn, hc⟩ := ‹∃ n : Nat, level _ = _ ∧ _›
      rcases n with _ | n
      · exfalso; have hp := parent_top hn; omega
      · have hp := parent_up hn
        have hl := level_up hn
        rw [hp] at *
        refine ⟨⟨n, hl, ?_⟩, by simp only; omega⟩
        rw [← hc]
        simp only [anc]
        rw [decide_eq_false ‹¬ _ = above.getD j _›, Bool.false_or]
    · obtain ⟨j, hj, rfl, hr, ha⟩ := ‹∃ j : Nat, j ≤ _ ∧ _ = _ ∧ _ ∧ _›
      have hk := level_right.2 hr
      try simp (disch := omega) only [wrap64, Int.toNat_natCast] at *
      obtain ⟨n, hn, hc⟩ := ‹∃ n : Nat, level _ = _ ∧ _›
      refine ⟨⟨j + 1, by omega, by omega, hr, ?_⟩, by omega⟩
      rw [← ha]
      refine (all_step (by omega) ?_).symm
      have he : _ = above.getD j ⟨0, 0, 0, 0⟩ := ‹_›
      rw [← hc, ← he]
      exact anc_self _ _
    · obtain ⟨j, hj, rfl, hr, ha⟩ := ‹∃ j : Nat, j ≤ _ ∧ _ = _ ∧ _ ∧ _›
      have hk := level_right.2 hr
      try simp (disch := omega) only [wrap64, Int.toNat_natCast] at *
      obtain rfl : j = above.length := by omega
      refine ⟨?_⟩
      unfold fromK
      rw [← ha, hr]
      simp
  · exact h.fail.elim

def T_keys_Roll : TT := [(3, ⟨.int .i64, 1, 8, [.int .i64 0], some .int⟩),
  (4, ⟨.bool, 1, 1, [.bool false], some .bool⟩),
  (23, ⟨.strct [(0, 3), (1, 3), (2, 3), (3, 3)], 4, 32, [.int .i64 0, .int .i64 0, .int .i64 0, .int .i64 0], some .key⟩),
  (27, ⟨.int .i64, 1, 8, [.int .i64 0], none⟩)]
theorem tOk_keys_Roll : TOk Try.prog T_keys_Roll := tOk_of (by kernel_rfl)
def sp_keys_Roll : Spec := fun args hp => match args, hp with
  | [.agg k_cs], [] => (match decS .key k_cs with
    | some k => .ok (.tup [svKey (roll k).1, iv (roll k).2]) []
    | none => .fail "struct")
  | _, _ => .fail "keys_Roll"
abbrev k_keys_Roll : List (Option RK) := [none]
def a_keys_Roll : List SV → List (Nat × VB) → Anns := fun _ _ => []
set_option maxHeartbeats 20000000 in
theorem ok_keys_Roll : GOk Try.prog 26 (lift k_keys_Roll sp_keys_Roll) := by
  refine pf_ok (T := T_keys_Roll) (Γ := (22, lift k_keys_Right sp_keys_Right) :: []) tOk_keys_Roll (gOks_cons ok_keys_Right (gOks_nil _)) mixed Try.func26 (c := body Try.f26) (by kernel_rfl) (by kernel_rfl) k_keys_Roll sp_keys_Roll (by kernel_rfl) (by kernel_rfl) a_keys_Roll ?_
  intro args hp s u hfit h
  unfold sp_keys_Roll at h
  split at h
  · rename_i k_cs
    split at h
    case h_2 => exact h.fail.elim
    rename_i k h_k
    obtain rfl := decS_ok (k := .key) rfl h_k
    clear h_k
    change Key at k
    obtain ⟨rfl, rfl⟩ := h.ok
    clear h hfit
    conv => whnf
    repeat' (first
      | (refine And.intro ?_ ?_ <;> try conv => whnf)
      | (intro hh; first | (cases hh; done) | conv => whnf))
    all_goals try first | rfl | kernel_rfl
    all_goals try simp only [Key_eta, Share_eta, Journey_eta, Batch_eta, FieldT_eta, OpB_eta, Product_eta, Key_beq, Share_beq, Journey_beq, FieldT_beq, Product_beq, toNat0, toNat1, toNat2, toNat3, toNat4, toNat5, toNat6, toNat7, toNat8, toNat9, toNat10, toNat11, toNat12, toNat13, toNat14, toNat15, toNat16, toNat17, toNat18, toNat19, iA, iOf, atS, zK, true_and, and_true, decide_eq_true_eq, decide_eq_false_iff_not, beq_iff_eq, bne_iff_ne, beq_eq_false_iff_ne, bne_eq_false_iff_eq, Bool.not_eq_true', Bool.not_eq_false', Bool.not_eq_true, Bool.not_eq_false, Nat.succ_eq_add_one, Int.not_lt, Int.not_le, gt_iff_lt, ge_iff_le] at *
    all_goals refine ⟨?_⟩
    all_goals (unfold roll; (repeat' split) <;> first | omega | (simp_all [zkey]; done) | (simp_all [right]; rw [wrap64] <;> omega))
  · exact h.fail.elim

def T_keys_Product : TT := [(3, ⟨.int .i64, 1, 8, [.int .i64 0], some .int⟩),
  (4, ⟨.bool, 1, 1, [.bool false], some .bool⟩),
  (23, ⟨.strct [(0, 3), (1, 3), (2, 3), (3, 3)], 4, 32, [.int .i64 0, .int .i64 0, .int .i64 0, .int .i64 0], some .key⟩),
  (27, ⟨.int .i64, 1, 8, [.int .i64 0], none⟩),
  (40, ⟨.int .i64, 1, 8, [.int .i64 0], none⟩),
  (42, ⟨.strct [(0, 40), (1, 3), (2, 3), (3, 3), (4, 3), (5, 3), (6, 3), (7, 3), (8, 4), (9, 3), (10, 3), (11, 3), (12, 3), (13, 4)], 14, 112, [.int .i64 0, .int .i64 0, .int .i64 0, .int .i64 0, .int .i64 0, .int .i64 0, .int .i64 0, .int .i64 0, .bool false, .int .i64 0, .int .i64 0, .int .i64 0, .int .i64 0, .bool false], some .product⟩)]
theorem tOk_keys_Product : TOk Try.prog T_keys_Product := tOk_of (by kernel_rfl)
def sp_keys_Product : Spec := fun args hp => match args, hp with
  | [.agg p_cs], [] => (match decS .product p_cs with
    | some p => .ok (.tup [svKey (product p).1, iv (product p).2]) []
    | none => .fail "struct")
  | _, _ => .fail "keys_Product"
abbrev k_keys_Product : List (Option RK) := [none]
def a_keys_Product : List SV → List (Nat × VB) → Anns := fun _ _ => []
set_option maxHeartbeats 20000000 in
theorem ok_keys_Product : GOk Try.prog 27 (lift k_keys_Product sp_keys_Product) := by
  refine pf_ok (T := T_keys_Product) (Γ := (23, lift k_keys_Level sp_keys_Level) :: []) tOk_keys_Product (gOks_cons ok_keys_Level (gOks_nil _)) mixed Try.func27 (c := body Try.f27) (by kernel_rfl) (by kernel_rfl) k_keys_Product sp_keys_Product (by kernel_rfl) (by kernel_rfl) a_keys_Product ?_
  intro args hp s u hfit h
  unfold sp_keys_Product at h
  split at h
  · rename_i p_cs
    split at h
    case h_2 => exact h.fail.elim
    rename_i p h_p
    obtain rfl := decS_ok (k := .product) rfl h_p
    clear h_p
    change Product at p
    obtain ⟨rfl, rfl⟩ := h.ok
    clear h hfit
    conv => whnf
    repeat' (first
      | (refine And.intro ?_ ?_ <;> try conv => whnf)
      | (intro hh; first | (cases hh; done) | conv => whnf))
    all_goals try first | rfl | kernel_rfl
    all_goals try simp only [Key_eta, Share_eta, Journey_eta, Batch_eta, FieldT_eta, OpB_eta, Product_eta, Key_beq, Share_beq, Journey_beq, FieldT_beq, Product_beq, toNat0, toNat1, toNat2, toNat3, toNat4, toNat5, toNat6, toNat7, toNat8, toNat9, toNat10, toNat11, toNat12, toNat13, toNat14, toNat15, toNat16, toNat17, toNat18, toNat19, iA, iOf, atS, zK, true_and, and_true, decide_eq_true_eq, decide_eq_false_iff_not, beq_iff_eq, bne_iff_ne, beq_eq_false_iff_ne, bne_eq_false_iff_eq, Bool.not_eq_true', Bool.not_eq_false', Bool.not_eq_true, Bool.not_eq_false, Nat.succ_eq_add_one, Int.not_lt, Int.not_le, gt_iff_lt, ge_iff_le] at *
    all_goals (refine ⟨?_⟩; unfold product prodKey; (repeat' split) <;> first | omega | simp_all [zkey])
  · exact h.fail.elim

def T_keys_Batch : TT := [(3, ⟨.int .i64, 1, 8, [.int .i64 0], some .int⟩),
  (4, ⟨.bool, 1, 1, [.bool false], some .bool⟩),
  (23, ⟨.strct [(0, 3), (1, 3), (2, 3), (3, 3)], 4, 32, [.int .i64 0, .int .i64 0, .int .i64 0, .int .i64 0], some .key⟩),
  (27, ⟨.int .i64, 1, 8, [.int .i64 0], none⟩)]
theorem tOk_keys_Batch : TOk Try.prog T_keys_Batch := tOk_of (by kernel_rfl)
def sp_keys_Batch : Spec := fun args hp => match args, hp with
  | [.val (.int .i64 op), .val (.int .i64 ver)], [] => .ok (.tup [svKey (batchK op ver).1, iv (batchK op ver).2]) []
  | _, _ => .fail "keys_Batch"
abbrev k_keys_Batch : List (Option RK) := [none, none]
def a_keys_Batch : List SV → List (Nat × VB) → Anns := fun _ _ => []
set_option maxHeartbeats 20000000 in
theorem ok_keys_Batch : GOk Try.prog 28 (lift k_keys_Batch sp_keys_Batch) := by
  refine pf_ok (T := T_keys_Batch) (Γ := (23, lift k_keys_Level sp_keys_Level) :: []) tOk_keys_Batch (gOks_cons ok_keys_Level (gOks_nil _)) mixed Try.func28 (c := body Try.f28) (by kernel_rfl) (by kernel_rfl) k_keys_Batch sp_keys_Batch (by kernel_rfl) (by kernel_rfl) a_keys_Batch ?_
  intro args hp s u hfit h
  unfold sp_keys_Batch at h
  split at h
  · rename_i op ver
    obtain ⟨rfl, rfl⟩ := h.ok
    clear h hfit
    conv => whnf
    repeat' (first
      | (refine And.intro ?_ ?_ <;> try conv => whnf)
      | (intro hh; first | (cases hh; done) | conv => whnf))
    all_goals try first | rfl | kernel_rfl
    all_goals try simp only [Key_eta, Share_eta, Journey_eta, Batch_eta, FieldT_eta, OpB_eta, Product_eta, Key_beq, Share_beq, Journey_beq, FieldT_beq, Product_beq, toNat0, toNat1, toNat2, toNat3, toNat4, toNat5, toNat6, toNat7, toNat8, toNat9, toNat10, toNat11, toNat12, toNat13, toNat14, toNat15, toNat16, toNat17, toNat18, toNat19, iA, iOf, atS, zK, true_and, and_true, decide_eq_true_eq, decide_eq_false_iff_not, beq_iff_eq, bne_iff_ne, beq_eq_false_iff_ne, bne_eq_false_iff_eq, Bool.not_eq_true', Bool.not_eq_false', Bool.not_eq_true, Bool.not_eq_false, Nat.succ_eq_add_one, Int.not_lt, Int.not_le, gt_iff_lt, ge_iff_le] at *
    all_goals (refine ⟨?_⟩; unfold batchK; (repeat' split) <;> first | omega | simp_all [zkey])
  · exact h.fail.elim

end Go.Proofs.Ytncdakkigkmfjaa.Sx
