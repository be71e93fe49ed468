import Derived.Test.YtncdakkigkmfjaaProg
import Derived.Test.YtncdakkigkmfjaaSxU
import Derived.IntWalk
import Derived.Test.YtncdakkigkmfjaaK2
/-! fareboxlaw09 -/
namespace Go.Proofs.Ytncdakkigkmfjaa.Sx
open Go
set_option linter.unusedVariables false
set_option linter.unusedSimpArgs false
set_option maxRecDepth 100000


theorem aw1 : derive ⟨0, 0, 0, 1⟩ [2, 1, 77] = (⟨2, 1, 77, 1⟩, 0) := by decide
theorem aw2 : parent ⟨2, 1, 77, 1⟩ = (⟨2, 1, 0, 1⟩, 0) := by decide
theorem aw3 : fromK ⟨2, 1, 77, 1⟩ [⟨2, 0, 0, 1⟩] = true := by decide


def T_fareboxlaw09_awake : TT := [(3, ⟨.int .i64, 1, 8, [.int .i64 0], some .int⟩),
  (4, ⟨.bool, 1, 1, [.bool false], some .bool⟩),
  (23, ⟨.strct [(0, 3), (1, 3), (2, 3), (3, 3)], 4, 32, [.int .i64 0, .int .i64 0, .int .i64 0, .int .i64 0], some .key⟩),
  (24, ⟨.slice 3, 1, 24, [.slice none 0 0], none⟩),
  (25, ⟨.slice 23, 1, 24, [.slice none 0 0], none⟩),
  (27, ⟨.int .i64, 1, 8, [.int .i64 0], none⟩)]
theorem tOk_fareboxlaw09_awake : TOk Try.prog T_fareboxlaw09_awake := tOk_of (by kernel_rfl)
def sp_fareboxlaw09_awake : Spec := fun args hp => match args, hp with
  | [], [] => .ok (bv true) []
  | _, _ => .fail "fareboxlaw09_awake"
abbrev k_fareboxlaw09_awake : List (Option RK) := []
def a_fareboxlaw09_awake : List SV → List (Nat × VB) → Anns := fun _ _ => []
set_option maxHeartbeats 20000000 in
theorem ok_fareboxlaw09_awake : GOk Try.prog 15 (lift k_fareboxlaw09_awake sp_fareboxlaw09_awake) := by
  refine pf_ok (T := T_fareboxlaw09_awake) (Γ := (16, lift k_keys_Derive sp_keys_Derive) :: (18, lift k_keys_Parent sp_keys_Parent) :: (25, lift k_keys_From sp_keys_From) :: []) tOk_fareboxlaw09_awake (gOks_cons ok_keys_Derive (gOks_cons ok_keys_Parent (gOks_cons ok_keys_From (gOks_nil _)))) mixed Try.func15 (c := body Try.f15) (by kernel_rfl) (by kernel_rfl) k_fareboxlaw09_awake sp_fareboxlaw09_awake (by kernel_rfl) (by kernel_rfl) a_fareboxlaw09_awake ?_
  intro args hp s u hfit h
  unfold sp_fareboxlaw09_awake at h
  split at h
  · skip
    obtain ⟨rfl, rfl⟩ := h.ok
    clear h hfit
    conv => whnf
    repeat' (first
      | (refine And.intro ?_ ?_ <;> try conv => whnf)
      | (intro hh; first | (cases hh; done) | conv => whnf))
    all_goals try first | rfl | kernel_rfl
    all_goals try simp only [Key_eta, Share_eta, Journey_eta, Batch_eta, FieldT_eta, OpB_eta, Product_eta, Key_beq, Share_beq, Journey_beq, FieldT_beq, Product_beq, toNat0, toNat1, toNat2, toNat3, toNat4, toNat5, toNat6, toNat7, toNat8, toNat9, toNat10, toNat11, toNat12, toNat13, toNat14, toNat15, toNat16, toNat17, toNat18, toNat19, iA, iOf, atS, zK, true_and, and_true, decide_eq_true_eq, decide_eq_false_iff_not, beq_iff_eq, bne_iff_ne, beq_eq_false_iff_ne, bne_eq_false_iff_eq, Bool.not_eq_true', Bool.not_eq_false', Bool.not_eq_true, Bool.not_eq_false, Nat.succ_eq_add_one, Int.not_lt, Int.not_le, gt_iff_lt, ge_iff_le] at *
    all_goals first
      | (refine Vc.mk ?_; simp; done)
      | (refine ⟨?_⟩; simp [aw1, aw2, aw3] at *; done)
      | (exfalso; simp [aw1, aw2, aw3] at *; done)
  · exact h.fail.elim


theorem anc_ver : ∀ {n : Nat} {x a : Key}, anc n x a = true → x.ver = a.ver
  | 0, x, a, h => by simp [anc] at h; rw [h]
  | n + 1, x, a, h => by
    simp only [anc, Bool.or_eq_true, decide_eq_true_eq] at h
    rcases h with h | h
    · rw [h]
    · exact (anc_ver (n := n) h : (atK x n 0).ver = a.ver)
theorem from_ver {x a : Key} (h : x.ver ≠ a.ver) : fromK x [a] = false := by
  unfold fromK
  cases hc : anc (level x).toNat x a with
  | false => simp [hc]
  | true => exact absurd (anc_ver hc) h
theorem rollC (k : Key) : (right k = false ∧ roll k = (zkey, 2)) ∨ (right k = true ∧ k.ver = 255 ∧ roll k = (zkey, 29)) ∨ (right k = true ∧ k.ver ≠ 255 ∧ roll k = (⟨k.op, k.ty, k.card, k.ver + 1⟩, 0) ∧ fromK ⟨k.op, k.ty, k.card, k.ver + 1⟩ [k] = false ∧ IntKind.i64.wrap (k.ver + 1) = k.ver + 1) := by
  unfold roll
  cases h : right k
  · simp
  · by_cases hv : k.ver = 255
    · simp [hv]
    · have hw : IntKind.i64.wrap (k.ver + 1) = k.ver + 1 := by
        simp [right] at h
        rw [wrap64] <;> omega
      simp [hv, hw]
      exact from_ver (by simp; omega)
theorem prodC (p : Product) : (level ⟨p.owner, p.kind, p.card, p.ver⟩ = 3 ∧ product p = (⟨p.owner, p.kind, p.card, p.ver⟩, 0)) ∨ (level ⟨p.owner, p.kind, p.card, p.ver⟩ ≠ 3 ∧ product p = (zkey, 2)) := by
  unfold product prodKey
  split
  · exact .inr ⟨‹_›, rfl⟩
  · exact .inl ⟨by omega, rfl⟩
theorem batchC (o v : Int) : (level ⟨o, 0, 0, v⟩ = 1 ∧ batchK o v = (⟨o, 0, 0, v⟩, 0)) ∨ (level ⟨o, 0, 0, v⟩ ≠ 1 ∧ batchK o v = (zkey, 2)) := by
  unfold batchK
  split
  · exact .inr ⟨‹_›, rfl⟩
  · exact .inl ⟨by omega, rfl⟩


def T_fareboxlaw09_KeysRolls : TT := [(3, ⟨.int .i64, 1, 8, [.int .i64 0], some .int⟩),
  (4, ⟨.bool, 1, 1, [.bool false], some .bool⟩),
  (23, ⟨.strct [(0, 3), (1, 3), (2, 3), (3, 3)], 4, 32, [.int .i64 0, .int .i64 0, .int .i64 0, .int .i64 0], some .key⟩),
  (25, ⟨.slice 23, 1, 24, [.slice none 0 0], none⟩),
  (27, ⟨.int .i64, 1, 8, [.int .i64 0], none⟩),
  (40, ⟨.int .i64, 1, 8, [.int .i64 0], none⟩),
  (42, ⟨.strct [(0, 40), (1, 3), (2, 3), (3, 3), (4, 3), (5, 3), (6, 3), (7, 3), (8, 4), (9, 3), (10, 3), (11, 3), (12, 3), (13, 4)], 14, 112, [.int .i64 0, .int .i64 0, .int .i64 0, .int .i64 0, .int .i64 0, .int .i64 0, .int .i64 0, .int .i64 0, .bool false, .int .i64 0, .int .i64 0, .int .i64 0, .int .i64 0, .bool false], some .product⟩)]
theorem tOk_fareboxlaw09_KeysRolls : TOk Try.prog T_fareboxlaw09_KeysRolls := tOk_of (by kernel_rfl)
def sp_fareboxlaw09_KeysRolls : Spec := fun args hp => match args, hp with
  | [.agg k_cs, .agg p_cs], [] => (match decS .key k_cs with
    | some k => (match decS .product p_cs with
    | some p => .ok (bv true) []
    | none => .fail "struct")
    | none => .fail "struct")
  | _, _ => .fail "fareboxlaw09_KeysRolls"
abbrev k_fareboxlaw09_KeysRolls : List (Option RK) := [none, none]
def a_fareboxlaw09_KeysRolls : List SV → List (Nat × VB) → Anns := fun _ _ => []
set_option maxHeartbeats 20000000 in
theorem ok_fareboxlaw09_KeysRolls : GOk Try.prog 7 (lift k_fareboxlaw09_KeysRolls sp_fareboxlaw09_KeysRolls) := by
  refine pf_ok (T := T_fareboxlaw09_KeysRolls) (Γ := (15, lift k_fareboxlaw09_awake sp_fareboxlaw09_awake) :: (26, lift k_keys_Roll sp_keys_Roll) :: (20, lift k_fareboxref09_Right sp_fareboxref09_Right) :: (25, lift k_keys_From sp_keys_From) :: (27, lift k_keys_Product sp_keys_Product) :: (28, lift k_keys_Batch sp_keys_Batch) :: (24, lift k_fareboxref09_Level sp_fareboxref09_Level) :: []) tOk_fareboxlaw09_KeysRolls (gOks_cons ok_fareboxlaw09_awake (gOks_cons ok_keys_Roll (gOks_cons ok_fareboxref09_Right (gOks_cons ok_keys_From (gOks_cons ok_keys_Product (gOks_cons ok_keys_Batch (gOks_cons ok_fareboxref09_Level (gOks_nil _)))))))) mixed Try.func7 (c := body Try.f7) (by kernel_rfl) (by kernel_rfl) k_fareboxlaw09_KeysRolls sp_fareboxlaw09_KeysRolls (by kernel_rfl) (by kernel_rfl) a_fareboxlaw09_KeysRolls ?_
  intro args hp s u hfit h
  unfold sp_fareboxlaw09_KeysRolls at h
  split at h
  · rename_i k_cs p_cs
    split at h
    case h_2 => exact h.fail.elim
    rename_i k h_k
    obtain rfl := decS_ok (k := .key) rfl h_k
    clear h_k
    change Key at k
    split at h
    case h_2 => exact h.fail.elim
    rename_i p h_p
    obtain rfl := decS_ok (k := .product) rfl h_p
    clear h_p
    change Product at p
    obtain ⟨rfl, rfl⟩ := h.ok
    clear h hfit
    conv => whnf
    repeat' (first
      | (refine And.intro ?_ ?_ <;> try conv => whnf)
      | (intro hh; first | (cases hh; done) | conv => whnf))
    all_goals try first | rfl | kernel_rfl
    all_goals try simp only [Key_eta, Share_eta, Journey_eta, Batch_eta, FieldT_eta, OpB_eta, Product_eta, Key_beq, Share_beq, Journey_beq, FieldT_beq, Product_beq, toNat0, toNat1, toNat2, toNat3, toNat4, toNat5, toNat6, toNat7, toNat8, toNat9, toNat10, toNat11, toNat12, toNat13, toNat14, toNat15, toNat16, toNat17, toNat18, toNat19, iA, iOf, atS, zK, true_and, and_true, decide_eq_true_eq, decide_eq_false_iff_not, beq_iff_eq, bne_iff_ne, beq_eq_false_iff_ne, bne_eq_false_iff_eq, Bool.not_eq_true', Bool.not_eq_false', Bool.not_eq_true, Bool.not_eq_false, Nat.succ_eq_add_one, Int.not_lt, Int.not_le, gt_iff_lt, ge_iff_le] at *
    all_goals first
      | (refine Vc.mk ?_; simp; done)
      | (refine Res.mk ?_; rcases rollC k with ⟨a1, a2⟩ | ⟨a1, a3, a2⟩ | ⟨a1, a3, a2, a4, a5⟩ <;> (try (simp_all [zkey]; done)) <;> rcases prodC p with ⟨b1, b2⟩ | ⟨b1, b2⟩ <;> (try (simp_all [zkey]; done)) <;> rcases batchC k.op k.ver with ⟨c1, c2⟩ | ⟨c1, c2⟩ <;> (try (simp_all [zkey]; done)))
  · exact h.fail.elim


theorem anc_level : ∀ {n : Nat} {x a : Key}, level x = n → anc n x a = true → x = a ∨ (0 ≤ level a ∧ level a < n)
  | 0, x, a, hl, h => by simp [anc] at h; exact .inl h
  | n + 1, x, a, hl, h => by
    simp only [anc, Bool.or_eq_true, decide_eq_true_eq] at h
    rcases h with h | h
    · exact .inl h
    · have hu := level_up hl
      rcases anc_level (n := n) hu h with h1 | h1
      · subst h1; right; omega
      · right; omega
theorem from_one {a b : Key} : fromK a [b] = (right a && anc (level a).toNat a b) := by simp [fromK]
theorem from_nil {a : Key} : fromK a [] = right a := by simp [fromK]
theorem apartC (a b : Key) : fromK a [b] = false ∨ (fromK a [b] = true ∧ right a = true ∧ fromK b [a] = decide (a = b) ∧ level b ≤ level a ∧ a.ver = b.ver) := by
  cases h : fromK a [b]
  · exact .inl rfl
  · refine .inr ⟨rfl, ?_⟩
    rw [from_one, Bool.and_eq_true] at h
    obtain ⟨hr, ha⟩ := h
    have hl := level_right.2 hr
    refine ⟨hr, ?_⟩
    rcases anc_level (n := (level a).toNat) (by omega) ha with h1 | ⟨h1, h2⟩
    · subst h1
      simp [from_one, hr, ha]
    · have hne : a ≠ b := by intro e; subst e; omega
      refine ⟨?_, by omega, anc_ver ha⟩
      rw [decide_eq_false hne, from_one, Bool.and_eq_false_iff]
      right
      cases hb : anc (level b).toNat b a with
      | false => rfl
      | true =>
        rcases anc_level (n := (level b).toNat) (by omega) hb with h3 | ⟨h3, h4⟩
        · exact absurd h3.symm hne
        · omega
theorem rollD (a b : Key) : (right a = false ∧ roll a = (zkey, 2)) ∨ (right a = true ∧ a.ver = 255 ∧ roll a = (zkey, 29)) ∨ (right a = true ∧ a.ver ≠ 255 ∧ roll a = (⟨a.op, a.ty, a.card, a.ver + 1⟩, 0) ∧ level ⟨a.op, a.ty, a.card, a.ver + 1⟩ = level a ∧ right ⟨a.op, a.ty, a.card, a.ver + 1⟩ = true ∧ (a.ver = b.ver → fromK ⟨a.op, a.ty, a.card, a.ver + 1⟩ [b] = false)) := by
  rcases rollC a with h | h | ⟨h1, h2, h3, h4, h5⟩
  · exact .inl h
  · exact .inr (.inl h)
  · refine .inr (.inr ⟨h1, h2, h3, ?_⟩)
    have hr : right ⟨a.op, a.ty, a.card, a.ver + 1⟩ = true := by simp [right] at *; omega
    exact ⟨by simp only [level, h1, hr], hr, fun h => from_ver (by simp; omega)⟩


def T_fareboxlaw09_KeysApart : TT := [(3, ⟨.int .i64, 1, 8, [.int .i64 0], some .int⟩),
  (4, ⟨.bool, 1, 1, [.bool false], some .bool⟩),
  (23, ⟨.strct [(0, 3), (1, 3), (2, 3), (3, 3)], 4, 32, [.int .i64 0, .int .i64 0, .int .i64 0, .int .i64 0], some .key⟩),
  (25, ⟨.slice 23, 1, 24, [.slice none 0 0], none⟩),
  (27, ⟨.int .i64, 1, 8, [.int .i64 0], none⟩)]
theorem tOk_fareboxlaw09_KeysApart : TOk Try.prog T_fareboxlaw09_KeysApart := tOk_of (by kernel_rfl)
def sp_fareboxlaw09_KeysApart : Spec := fun args hp => match args, hp with
  | [.agg a_cs, .agg b_cs], [] => (match decS .key a_cs with
    | some a => (match decS .key b_cs with
    | some b => .ok (bv true) []
    | none => .fail "struct")
    | none => .fail "struct")
  | _, _ => .fail "fareboxlaw09_KeysApart"
abbrev k_fareboxlaw09_KeysApart : List (Option RK) := [none, none]
def a_fareboxlaw09_KeysApart : List SV → List (Nat × VB) → Anns := fun _ _ => []
set_option maxHeartbeats 20000000 in
theorem ok_fareboxlaw09_KeysApart : GOk Try.prog 5 (lift k_fareboxlaw09_KeysApart sp_fareboxlaw09_KeysApart) := by
  refine pf_ok (T := T_fareboxlaw09_KeysApart) (Γ := (15, lift k_fareboxlaw09_awake sp_fareboxlaw09_awake) :: (22, lift k_keys_Right sp_keys_Right) :: (25, lift k_keys_From sp_keys_From) :: (23, lift k_keys_Level sp_keys_Level) :: (26, lift k_keys_Roll sp_keys_Roll) :: []) tOk_fareboxlaw09_KeysApart (gOks_cons ok_fareboxlaw09_awake (gOks_cons ok_keys_Right (gOks_cons ok_keys_From (gOks_cons ok_keys_Level (gOks_cons ok_keys_Roll (gOks_nil _)))))) mixed Try.func5 (c := body Try.f5) (by kernel_rfl) (by kernel_rfl) k_fareboxlaw09_KeysApart sp_fareboxlaw09_KeysApart (by kernel_rfl) (by kernel_rfl) a_fareboxlaw09_KeysApart ?_
  intro args hp s u hfit h
  unfold sp_fareboxlaw09_KeysApart at h
  split at h
  · rename_i a_cs b_cs
    split at h
    case h_2 => exact h.fail.elim
    rename_i a h_a
    obtain rfl := decS_ok (k := .key) rfl h_a
    clear h_a
    change Key at a
    split at h
    case h_2 => exact h.fail.elim
    rename_i b h_b
    obtain rfl := decS_ok (k := .key) rfl h_b
    clear h_b
    change Key at b
    obtain ⟨rfl, rfl⟩ := h.ok
    clear h hfit
    conv => whnf
    repeat' (first
      | (refine And.intro ?_ ?_ <;> try conv => whnf)
      | (intro hh; first | (cases hh; done) | conv => whnf))
    all_goals try first | rfl | kernel_rfl
    all_goals try simp only [Key_eta, Share_eta, Journey_eta, Batch_eta, FieldT_eta, OpB_eta, Product_eta, Key_beq, Share_beq, Journey_beq, FieldT_beq, Product_beq, toNat0, toNat1, toNat2, toNat3, toNat4, toNat5, toNat6, toNat7, toNat8, toNat9, toNat10, toNat11, toNat12, toNat13, toNat14, toNat15, toNat16, toNat17, toNat18, toNat19, iA, iOf, atS, zK, true_and, and_true, decide_eq_true_eq, decide_eq_false_iff_not, beq_iff_eq, bne_iff_ne, beq_eq_false_iff_ne, bne_eq_false_iff_eq, Bool.not_eq_true', Bool.not_eq_false', Bool.not_eq_true, Bool.not_eq_false, Nat.succ_eq_add_one, Int.not_lt, Int.not_le, gt_iff_lt, ge_iff_le] at *
    all_goals first
      | (refine Vc.mk ?_; simp; done)
      | (refine Res.mk ?_; (try simp only [from_nil] at *) <;> rcases apartC a b with a1 | ⟨a1, a2, a3, a4, a5⟩ <;> (try (simp_all [zkey]; done)) <;> rcases rollD a b with ⟨b1, b2⟩ | ⟨b1, b3, b2⟩ | ⟨b1, b3, b2, b4, b5, b6⟩ <;> (try (simp_all [zkey]; done)) <;> exfalso <;> simp_all [zkey] <;> omega)
  · exact h.fail.elim

end Go.Proofs.Ytncdakkigkmfjaa.Sx
