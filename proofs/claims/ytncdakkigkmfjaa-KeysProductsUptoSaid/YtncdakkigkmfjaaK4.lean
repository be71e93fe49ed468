import Derived.Test.YtncdakkigkmfjaaProg
import Derived.Test.YtncdakkigkmfjaaSxU
import Derived.IntWalk
import Derived.Test.YtncdakkigkmfjaaK3
/-! fareboxlaw09 -/
namespace Go.Proofs.Ytncdakkigkmfjaa.Sx
open Go
set_option linter.unusedVariables false
set_option linter.unusedSimpArgs false
set_option maxRecDepth 100000


theorem level_three {k : Key} (h : level k = 3) : right k = true ∧ k.op ≠ 0 ∧ k.ty ≠ 0 ∧ k.card ≠ 0 := by
  have hr := level_right.1 (show 0 ≤ level k by omega)
  refine ⟨hr, ?_⟩
  unfold level at h
  simp [right] at hr
  rw [if_neg (by simp [right]; omega)] at h
  (repeat' split at h) <;> omega
theorem level_one {o v : Int} : level ⟨o, 0, 0, v⟩ = 1 ↔ (1 ≤ o ∧ o ≤ 4 ∧ 1 ≤ v ∧ v ≤ 255) := by
  simp [level, right]
  (repeat' split) <;> omega
theorem three_from {k : Key} (h : level k = 3) (o v : Int) (ho : o ≠ 0) : fromK k [⟨o, 0, 0, v⟩] = (decide (o = k.op) && decide (v = k.ver)) := by
  obtain ⟨hr, h1, h2, h3⟩ := level_three h
  rw [from_one, hr, h, Bool.true_and]
  show anc 3 k _ = _
  rw [Bool.eq_iff_iff]
  obtain ⟨a, b, c, d⟩ := k
  simp [anc, atK] at *
  omega
theorem three_two {k : Key} (h : level k = 3) : fromK k [⟨k.op, 0, 0, k.ver⟩, ⟨0, 0, 0, k.ver⟩] = true := by
  obtain ⟨hr, h1, h2, h3⟩ := level_three h
  have hn : (level k).toNat = 3 := by rw [h]; rfl
  simp [fromK, hr, hn, anc, atK]
theorem one_three {k : Key} (h : level k = 3) (h1 : level ⟨k.op, 0, 0, k.ver⟩ = 1) : fromK ⟨k.op, 0, 0, k.ver⟩ [k] = false := by
  rcases apartC ⟨k.op, 0, 0, k.ver⟩ k with a | ⟨_, _, _, a, _⟩
  · exact a
  · omega
theorem threeD {k : Key} (h : level k = 3) (op ver : Int) : batchK k.op k.ver = (⟨k.op, 0, 0, k.ver⟩, 0) ∧ fromK k [⟨k.op, 0, 0, k.ver⟩, ⟨0, 0, 0, k.ver⟩] = true ∧ fromK ⟨k.op, 0, 0, k.ver⟩ [k] = false ∧ (level ⟨op, 0, 0, ver⟩ = 1 → fromK k [⟨op, 0, 0, ver⟩] = (decide (op = k.op) && decide (ver = k.ver))) := by
  obtain ⟨hr, h1, h2, h3⟩ := level_three h
  have h1 : level ⟨k.op, 0, 0, k.ver⟩ = 1 := level_one.2 (by simp [right] at hr; omega)
  refine ⟨?_, three_two h, one_three h h1, fun ho => three_from h op ver ?_⟩
  · rcases batchC k.op k.ver with c | c
    · exact c.2
    · exact absurd h1 c.1
  · have := level_one.1 ho; omega
theorem prodD (p : Product) (op ver : Int) : (product p = (zkey, 2)) ∨ (product p = (⟨p.owner, p.kind, p.card, p.ver⟩, 0) ∧ batchK p.owner p.ver = (⟨p.owner, 0, 0, p.ver⟩, 0) ∧ level ⟨p.owner, p.kind, p.card, p.ver⟩ = 3 ∧ fromK ⟨p.owner, p.kind, p.card, p.ver⟩ [⟨p.owner, 0, 0, p.ver⟩, ⟨0, 0, 0, p.ver⟩] = true ∧ fromK ⟨p.owner, 0, 0, p.ver⟩ [⟨p.owner, p.kind, p.card, p.ver⟩] = false ∧ (level ⟨op, 0, 0, ver⟩ = 1 → fromK ⟨p.owner, p.kind, p.card, p.ver⟩ [⟨op, 0, 0, ver⟩] = (decide (op = p.owner) && decide (ver = p.ver)))) := by
  rcases prodC p with ⟨h, hp⟩ | ⟨h, hp⟩
  · obtain ⟨h1, h2, h3, h4⟩ := threeD h op ver
    exact .inr ⟨hp, h1, h, h2, h3, h4⟩
  · exact .inl hp


def T_fareboxlaw09_KeysProducts : TT := [(3, ⟨.int .i64, 1, 8, [.int .i64 0], some .int⟩),
  (4, ⟨.bool, 1, 1, [.bool false], some .bool⟩),
  (23, ⟨.strct [(0, 3), (1, 3), (2, 3), (3, 3)], 4, 32, [.int .i64 0, .int .i64 0, .int .i64 0, .int .i64 0], some .key⟩),
  (25, ⟨.slice 23, 1, 24, [.slice none 0 0], none⟩),
  (27, ⟨.int .i64, 1, 8, [.int .i64 0], none⟩),
  (40, ⟨.int .i64, 1, 8, [.int .i64 0], none⟩),
  (42, ⟨.strct [(0, 40), (1, 3), (2, 3), (3, 3), (4, 3), (5, 3), (6, 3), (7, 3), (8, 4), (9, 3), (10, 3), (11, 3), (12, 3), (13, 4)], 14, 112, [.int .i64 0, .int .i64 0, .int .i64 0, .int .i64 0, .int .i64 0, .int .i64 0, .int .i64 0, .int .i64 0, .bool false, .int .i64 0, .int .i64 0, .int .i64 0, .int .i64 0, .bool false], some .product⟩)]
theorem tOk_fareboxlaw09_KeysProducts : TOk Try.prog T_fareboxlaw09_KeysProducts := tOk_of (by kernel_rfl)
def sp_fareboxlaw09_KeysProducts : Spec := fun args hp => match args, hp with
  | [.agg p_cs, .val (.int .i64 op), .val (.int .i64 ver)], [] => (match decS .product p_cs with
    | some p => .ok (bv true) []
    | none => .fail "struct")
  | _, _ => .fail "fareboxlaw09_KeysProducts"
abbrev k_fareboxlaw09_KeysProducts : List (Option RK) := [none, none, none]
def a_fareboxlaw09_KeysProducts : List SV → List (Nat × VB) → Anns := fun _ _ => []
set_option maxHeartbeats 20000000 in
theorem ok_fareboxlaw09_KeysProducts : GOk Try.prog 6 (lift k_fareboxlaw09_KeysProducts sp_fareboxlaw09_KeysProducts) := by
  refine pf_ok (T := T_fareboxlaw09_KeysProducts) (Γ := (15, lift k_fareboxlaw09_awake sp_fareboxlaw09_awake) :: (27, lift k_keys_Product sp_keys_Product) :: (28, lift k_keys_Batch sp_keys_Batch) :: (25, lift k_keys_From sp_keys_From) :: (23, lift k_keys_Level sp_keys_Level) :: []) tOk_fareboxlaw09_KeysProducts (gOks_cons ok_fareboxlaw09_awake (gOks_cons ok_keys_Product (gOks_cons ok_keys_Batch (gOks_cons ok_keys_From (gOks_cons ok_keys_Level (gOks_nil _)))))) mixed Try.func6 (c := body Try.f6) (by kernel_rfl) (by kernel_rfl) k_fareboxlaw09_KeysProducts sp_fareboxlaw09_KeysProducts (by kernel_rfl) (by kernel_rfl) a_fareboxlaw09_KeysProducts ?_
  intro args hp s u hfit h
  unfold sp_fareboxlaw09_KeysProducts at h
  split at h
  · rename_i p_cs op ver
    split at h
    case h_2 => exact h.fail.elim
    rename_i p h_p
    obtain rfl := decS_ok (k := .product) rfl h_p
    clear h_p
    change Product at p
    obtain ⟨rfl, rfl⟩ := h.ok
    clear h hfit
    conv => whnf
    repeat' (first
      | (refine And.intro ?_ ?_ <;> try conv => whnf)
      | (intro hh; first | (cases hh; done) | conv => whnf))
    all_goals try first | rfl | kernel_rfl
    all_goals try simp only [Key_eta, Share_eta, Journey_eta, Batch_eta, FieldT_eta, OpB_eta, Product_eta, Key_beq, Share_beq, Journey_beq, FieldT_beq, Product_beq, toNat0, toNat1, toNat2, toNat3, toNat4, toNat5, toNat6, toNat7, toNat8, toNat9, toNat10, toNat11, toNat12, toNat13, toNat14, toNat15, toNat16, toNat17, toNat18, toNat19, iA, iOf, atS, zK, true_and, and_true, decide_eq_true_eq, decide_eq_false_iff_not, beq_iff_eq, bne_iff_ne, beq_eq_false_iff_ne, bne_eq_false_iff_eq, Bool.not_eq_true', Bool.not_eq_false', Bool.not_eq_true, Bool.not_eq_false, Nat.succ_eq_add_one, Int.not_lt, Int.not_le, gt_iff_lt, ge_iff_le] at *
    all_goals first
      | (refine Vc.mk ?_; simp; done)
      | (refine Res.mk ?_; rcases prodD p op ver with a1 | ⟨a1, a2, a3, a4, a5, a6⟩ <;> (try (simp_all [zkey]; done)) <;> rcases batchC op ver with ⟨c1, c2⟩ | ⟨c1, c2⟩ <;> first | (simp_all [zkey]; done) | (simp only [a1, c2, a6 c1]; simp [*]; (try (rw [Bool.eq_iff_iff]; simp)); done))
  · exact h.fail.elim


theorem levelC (k : Key) : (level k = -1 ∧ right k = false ∧ ¬ (1 ≤ k.ver ∧ k.ver ≤ 255 ∧ 0 ≤ k.op ∧ k.op ≤ 4 ∧ 0 ≤ k.ty ∧ k.ty ≤ 4 ∧ 0 ≤ k.card ∧ k.card ≤ 65535 ∧ (k.op ≠ 0 ∨ k.ty = 0) ∧ (k.ty ≠ 0 ∨ k.card = 0))) ∨ (right k = true ∧ 1 ≤ k.ver ∧ k.ver ≤ 255 ∧
    ((level k = 0 ∧ k.op = 0 ∧ k.ty = 0 ∧ k.card = 0) ∨ (level k = 1 ∧ 1 ≤ k.op ∧ k.op ≤ 4 ∧ k.ty = 0 ∧ k.card = 0) ∨ (level k = 2 ∧ 1 ≤ k.op ∧ k.op ≤ 4 ∧ 1 ≤ k.ty ∧ k.ty ≤ 4 ∧ k.card = 0) ∨ (level k = 3 ∧ 1 ≤ k.op ∧ k.op ≤ 4 ∧ 1 ≤ k.ty ∧ k.ty ≤ 4 ∧ 1 ≤ k.card ∧ k.card ≤ 65535))) := by
  cases h : right k
  · left
    have h' : ¬ right k = true := by simp [h]
    refine ⟨by simp [level, h], rfl, ?_⟩
    intro hc
    apply h'
    simp [right]
    omega
  · right
    refine ⟨rfl, ?_⟩
    simp only [level, h]
    simp [right] at h
    refine ⟨by omega, by omega, ?_⟩
    simp only [Bool.true_eq_false, if_false]
    (repeat' split) <;> omega
theorem anc_ref (k a : Key) (h : right k = true) : anc (level k).toNat k a = refFrom k a := by
  obtain ⟨o, t, c, v⟩ := k
  obtain ⟨o', t', c', v'⟩ := a
  rw [Bool.eq_iff_iff]
  rcases levelC ⟨o, t, c, v⟩ with ⟨h1, h2, _⟩ | ⟨_, hv, hv', hk⟩
  · rw [h2] at h; cases h
  rcases levelC ⟨o', t', c', v'⟩ with ⟨a1, a2, a3⟩ | ⟨a1, av, av', ha⟩
  all_goals (rcases hk with ⟨k1, k2⟩ | ⟨k1, k2⟩ | ⟨k1, k2⟩ | ⟨k1, k2⟩)
  all_goals try (rcases ha with ⟨a2, a3⟩ | ⟨a2, a3⟩ | ⟨a2, a3⟩ | ⟨a2, a3⟩)
  all_goals simp [refFrom, k1, a1, a2, anc, atK]
  all_goals (simp at *; omega)
theorem from_ref (k : Key) (above : List Key) : fromK k above = (right k && above.all (refFrom k)) := by
  unfold fromK
  cases h : right k
  · rfl
  · congr 1
    congr 1
    funext a
    exact anc_ref k a h
theorem setAll_get : ∀ {p : List Int} {x : List Int} {n : Int} {i : Nat}, 0 ≤ n → i < n.toNat → (setAll x n p).getD i 0 = x.getD i 0
  | [], x, n, i, _, _ => rfl
  | a :: p, x, n, i, h0, h => by
    simp only [setAll]
    rw [setAll_get (by omega) (by omega)]
    simp [List.getD, List.getElem?_set, show n.toNat ≠ i by omega]
theorem go_set : ∀ (p : List Int) (k : Key) (l : Nat), level k = l → l + p.length ≤ 3 →
    go k l p = if level (rowKey (setAll [k.op, k.ty, k.card] l p) k.ver) = l + p.length then some (rowKey (setAll [k.op, k.ty, k.card] l p) k.ver) else none
  | [], k, l, h, _ => by simp [go, setAll, rowKey, h]
  | n :: p, k, l, h, hl => by
    simp only [List.length_cons] at hl
    have hl' : l = 0 ∨ l = 1 ∨ l = 2 := by omega
    have hc := levelC k
    have hr : ((atK k l n).op :: (atK k l n).ty :: [(atK k l n).card]) = [k.op, k.ty, k.card].set l n := by
      rcases hl' with rfl | rfl | rfl <;> simp [atK]
    simp only [go, setAll, List.length_cons, Int.toNat_natCast]
    by_cases hg : n = 0 ∨ right (atK k l n) = false
    · rw [if_pos hg]
      refine (if_neg ?_).symm
      intro hf
      have g : ∀ i, i ≤ l → (setAll ([k.op, k.ty, k.card].set l n) (l + 1) p).getD i 0 = ([k.op, k.ty, k.card].set l n).getD i 0 := fun i hi => setAll_get (by omega) (by omega)
      have hK := levelC (rowKey (setAll ([k.op, k.ty, k.card].set l n) (l + 1) p) k.ver)
      have hA : n = 0 ∨ ¬ _ := hg.imp id fun h0 => by
        rcases levelC (atK k l n) with ⟨_, _, h1⟩ | ⟨h1, _⟩
        · exact h1
        · rw [h0] at h1; cases h1
      clear hg
      rcases hl' with rfl | rfl | rfl
      · have g0 := g 0 (by omega)
        simp at g0
        simp [rowKey, atK, g0] at *
        omega
      · have g0 := g 0 (by omega)
        have g1 := g 1 (by omega)
        simp at g0 g1
        simp [rowKey, atK, g0, g1] at *
        omega
      · have g0 := g 0 (by omega)
        have g1 := g 1 (by omega)
        have g2 := g 2 (by omega)
        simp at g0 g1 g2
        simp [rowKey, atK, g0, g1, g2] at *
        omega
    · rw [if_neg hg]
      have hn : n ≠ 0 := fun h => hg (.inl h)
      have hr' : right (atK k l n) = true := by cases h : right (atK k l n) <;> simp_all
      have hlv : level (atK k l n) = (l + 1 : Nat) := by
        have hA := levelC (atK k l n)
        rw [hr'] at hA
        rcases hl' with rfl | rfl | rfl <;> simp [atK] at * <;> omega
      have := go_set p (atK k l n) (l + 1) hlv (by omega)
      rw [hr] at this
      change go _ ((l : Int) + 1) p = _ at this
      simp only [show (atK k l n).ver = k.ver from rfl] at this
      rw [this]
      have e : ((l + 1 : Nat) : Int) + (p.length : Int) = (l : Int) + ((p.length + 1 : Nat) : Int) := by omega
      by_cases hq : level (rowKey (setAll ([k.op, k.ty, k.card].set l n) ((l + 1 : Nat) : Int) p) k.ver) = (l : Int) + ((p.length + 1 : Nat) : Int)
      · rw [if_pos (by rw [e]; exact hq)]; exact (if_pos hq).symm
      · rw [if_neg (by rw [e]; exact hq)]; exact (if_neg hq).symm
theorem derive_ref (k : Key) (p : List Int) : derive k p = refDerive k p := by
  have hr := level_range k
  unfold derive refDerive
  by_cases h1 : level k < 0
  · rw [if_pos h1, if_pos h1]
  rw [if_neg h1, if_neg h1]
  by_cases h2 : level k + p.length > 3
  · rw [if_pos h2, if_pos h2]
  rw [if_neg h2, if_neg h2]
  have := go_set p k (level k).toNat (by omega) (by omega)
  rw [show ((level k).toNat : Int) = level k by omega] at this
  rw [this]
  by_cases h3 : level (rowKey (setAll [k.op, k.ty, k.card] (level k) p) k.ver) = level k + p.length
  · rw [if_pos h3, if_neg (by simp [h3])]
  · rw [if_neg h3, if_pos h3]


def T_fareboxlaw09_KeysAsks : TT := [(3, ⟨.int .i64, 1, 8, [.int .i64 0], some .int⟩),
  (4, ⟨.bool, 1, 1, [.bool false], some .bool⟩),
  (23, ⟨.strct [(0, 3), (1, 3), (2, 3), (3, 3)], 4, 32, [.int .i64 0, .int .i64 0, .int .i64 0, .int .i64 0], some .key⟩),
  (24, ⟨.slice 3, 1, 24, [.slice none 0 0], none⟩),
  (25, ⟨.slice 23, 1, 24, [.slice none 0 0], none⟩),
  (27, ⟨.int .i64, 1, 8, [.int .i64 0], none⟩)]
theorem tOk_fareboxlaw09_KeysAsks : TOk Try.prog T_fareboxlaw09_KeysAsks := tOk_of (by kernel_rfl)
def sp_fareboxlaw09_KeysAsks : Spec := fun args hp => match args, hp with
  | [.agg k_cs, .slF 0, .slF 1], [(0, .row o_path .int path), (1, .row o_above .key above)] => (match decS .key k_cs with
    | some k => .vc (path.length ≤ 1048576 ∧ above.length ≤ 1048576) (bv true) []
    | none => .fail "struct")
  | _, _ => .fail "fareboxlaw09_KeysAsks"
abbrev k_fareboxlaw09_KeysAsks : List (Option RK) := [none, some .int, some .key]
def a_fareboxlaw09_KeysAsks : List SV → List (Nat × VB) → Anns := fun args hp => match args, hp with
  | [.agg k_cs, .slF 0, .slF 1], [(0, .row o_path .int path), (1, .row o_above .key above)] => (match decS .key k_cs with
    | some k => [(9, fun S => .inv [] [] fun ids vs => { cars := [.i 16 .i64, .b 15], inv := fun ((i, fr, _) : Int × Bool × Unit) => ∃ j : Nat, j ≤ above.length ∧ i = j ∧ fr = (right k && (above.take j).all (refFrom k)), mu := fun ((i, fr, _) : Int × Bool × Unit) => above.length - i.toNat })]
    | none => [])
  | _, _ => []
set_option maxHeartbeats 20000000 in
theorem ok_fareboxlaw09_KeysAsks : GOk Try.prog 3 (lift k_fareboxlaw09_KeysAsks sp_fareboxlaw09_KeysAsks) := by
  refine pf_ok (T := T_fareboxlaw09_KeysAsks) (Γ := (15, lift k_fareboxlaw09_awake sp_fareboxlaw09_awake) :: (16, lift k_keys_Derive sp_keys_Derive) :: (17, lift k_fareboxref09_Derive sp_fareboxref09_Derive) :: (18, lift k_keys_Parent sp_keys_Parent) :: (19, lift k_fareboxref09_Parent sp_fareboxref09_Parent) :: (20, lift k_fareboxref09_Right sp_fareboxref09_Right) :: (21, lift k_fareboxref09_From sp_fareboxref09_From) :: (22, lift k_keys_Right sp_keys_Right) :: (23, lift k_keys_Level sp_keys_Level) :: (24, lift k_fareboxref09_Level sp_fareboxref09_Level) :: (25, lift k_keys_From sp_keys_From) :: []) tOk_fareboxlaw09_KeysAsks (gOks_cons ok_fareboxlaw09_awake (gOks_cons ok_keys_Derive (gOks_cons ok_fareboxref09_Derive (gOks_cons ok_keys_Parent (gOks_cons ok_fareboxref09_Parent (gOks_cons ok_fareboxref09_Right (gOks_cons ok_fareboxref09_From (gOks_cons ok_keys_Right (gOks_cons ok_keys_Level (gOks_cons ok_fareboxref09_Level (gOks_cons ok_keys_From (gOks_nil _)))))))))))) mixed Try.func3 (c := body Try.f3) (by kernel_rfl) (by kernel_rfl) k_fareboxlaw09_KeysAsks sp_fareboxlaw09_KeysAsks (by kernel_rfl) (by kernel_rfl) a_fareboxlaw09_KeysAsks ?_
  intro args hp s u hfit h
  unfold sp_fareboxlaw09_KeysAsks at h
  split at h
  · rename_i k_cs o_path path o_above above
    split at h
    case h_2 => exact h.fail.elim
    rename_i k h_k
    obtain rfl := decS_ok (k := .key) rfl h_k
    clear h_k
    change Key at k
    obtain ⟨hvc, rfl, rfl⟩ := h.vc
    clear h hfit
    change List Int at path
    change List Key at above
    conv => whnf
    repeat' (first
      | (refine And.intro ?_ ?_ <;> try conv => whnf)
      | (intro hh; first | (cases hh; done) | conv => whnf))
    all_goals try first | rfl | kernel_rfl
    all_goals try simp only [Key_eta, Share_eta, Journey_eta, Batch_eta, FieldT_eta, OpB_eta, Product_eta, Key_beq, Share_beq, Journey_beq, FieldT_beq, Product_beq, toNat0, toNat1, toNat2, toNat3, toNat4, toNat5, toNat6, toNat7, toNat8, toNat9, toNat10, toNat11, toNat12, toNat13, toNat14, toNat15, toNat16, toNat17, toNat18, toNat19, iA, iOf, atS, zK, true_and, and_true, decide_eq_true_eq, decide_eq_false_iff_not, beq_iff_eq, bne_iff_ne, beq_eq_false_iff_ne, bne_eq_false_iff_eq, Bool.not_eq_true', Bool.not_eq_false', Bool.not_eq_true, Bool.not_eq_false, Nat.succ_eq_add_one, Int.not_lt, Int.not_le, gt_iff_lt, ge_iff_le] at *
    all_goals try simp only [List.nil_append, List.length_nil, derive_ref, show bytesS T_fareboxlaw09_KeysAsks 24 = 8 from rfl, show bytesS T_fareboxlaw09_KeysAsks 25 = 32 from rfl] at *
    all_goals first
      | (refine Vc.mk ?_; omega)
      | exact ⟨⟨0, Nat.zero_le _, rfl, by simp⟩⟩
      | (refine Res.mk ?_; exfalso; simp at *; done)
      | (obtain ⟨j, hj, rfl, rfl⟩ := ‹∃ j : Nat, j ≤ _ ∧ _ = _ ∧ _›
         try simp (disch := omega) only [wrap64, Int.toNat_natCast] at *
         first
         | (refine Vc.mk ?_; omega)
         | (refine ⟨⟨j + 1, by omega, by omega, ?_⟩, by omega⟩
            rw [take_getD (d := (⟨0, 0, 0, 0⟩ : Key)) (by omega), List.all_append, ← Bool.and_assoc]
            simp [*]; done)
         | (obtain rfl : j = above.length := by omega
            rw [List.take_length] at *
            refine Res.mk ?_
            exact from_ref _ _)
         | (refine Res.mk ?_; exfalso; simp at *; done))
  · exact h.fail.elim

end Go.Proofs.Ytncdakkigkmfjaa.Sx
