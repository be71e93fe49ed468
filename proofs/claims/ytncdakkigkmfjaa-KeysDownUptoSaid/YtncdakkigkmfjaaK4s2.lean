import Derived.Test.YtncdakkigkmfjaaProg
import Derived.Test.YtncdakkigkmfjaaSxU
import Derived.IntWalk
import Derived.Test.YtncdakkigkmfjaaK4s1
/-! fareboxlaw09 -/
namespace Go.Proofs.Ytncdakkigkmfjaa.Sx
open Go
set_option linter.unusedVariables false
set_option linter.unusedSimpArgs false
set_option maxRecDepth 100000


theorem levelC (k : Key) : (level k = -1 ∧ right k = false ∧ ¬ (1 ≤ k.ver ∧ k.ver ≤ 255 ∧ 0 ≤ k.op ∧ k.op ≤ 4 ∧ 0 ≤ k.ty ∧ k.ty ≤ 4 ∧ 0 ≤ k.card ∧ k.card ≤ 65535 ∧ (k.op ≠ 0 ∨ k.ty = 0) ∧ (k.ty ≠ 0 ∨ k.card = 0))) ∨ (right k = true ∧ 1 ≤ k.ver ∧ k.ver ≤ 255 ∧
    ((level k = 0 ∧ k.op = 0 ∧ k.ty = 0 ∧ k.card = 0) ∨ (level k = 1 ∧ 1 ≤ k.op ∧ k.op ≤ 4 ∧ k.ty = 0 ∧ k.card = 0) ∨ (level k = 2 ∧ 1 ≤ k.op ∧ k.op ≤ 4 ∧ 1 ≤ k.ty ∧ k.ty ≤ 4 ∧ k.card = 0) ∨ (level k = 3 ∧ 1 ≤ k.op ∧ k.op ≤ 4 ∧ 1 ≤ k.ty ∧ k.ty ≤ 4 ∧ 1 ≤ k.card ∧ k.card ≤ 65535))) := by
  cases h : right k
  · left
    have h' : ¬ right k = true := by simp [h]
    refine ⟨by simp [level, h], rfl, ?_⟩
    intro hc
    apply h'
    simp [right]
    omega
  · right
    refine ⟨rfl, ?_⟩
    simp only [level, h]
    simp [right] at h
    refine ⟨by omega, by omega, ?_⟩
    simp only [Bool.true_eq_false, if_false]
    (repeat' split) <;> omega
theorem anc_ref (k a : Key) (h : right k = true) : anc (level k).toNat k a = refFrom k a := by
  obtain ⟨o, t, c, v⟩ := k
  obtain ⟨o', t', c', v'⟩ := a
  rw [Bool.eq_iff_iff]
  rcases levelC ⟨o, t, c, v⟩ with ⟨h1, h2, _⟩ | ⟨_, hv, hv', hk⟩
  · rw [h2] at h; cases h
  rcases levelC ⟨o', t', c', v'⟩ with ⟨a1, a2, a3⟩ | ⟨a1, av, av', ha⟩
  all_goals (rcases hk with ⟨k1, k2⟩ | ⟨k1, k2⟩ | ⟨k1, k2⟩ | ⟨k1, k2⟩)
  all_goals try (rcases ha with ⟨a2, a3⟩ | ⟨a2, a3⟩ | ⟨a2, a3⟩ | ⟨a2, a3⟩)
  all_goals simp [refFrom, k1, a1, a2, anc, atK]
  all_goals (simp at *; omega)
theorem from_ref (k : Key) (above : List Key) : fromK k above = (right k && above.all (refFrom k)) := by
  unfold fromK
  cases h : right k
  · rfl
  · congr 1
    congr 1
    funext a
    exact anc_ref k a h
theorem setAll_get : ∀ {p : List Int} {x : List Int} {n : Int} {i : Nat}, 0 ≤ n → i < n.toNat → (setAll x n p).getD i 0 = x.getD i 0
  | [], x, n, i, _, _ => rfl
  | a :: p, x, n, i, h0, h => by
    simp only [setAll]
    rw [setAll_get (by omega) (by omega)]
    simp [List.getD, List.getElem?_set, show n.toNat ≠ i by omega]
theorem go_set : ∀ (p : List Int) (k : Key) (l : Nat), level k = l → l + p.length ≤ 3 →
    go k l p = if level (rowKey (setAll [k.op, k.ty, k.card] l p) k.ver) = l + p.length then some (rowKey (setAll [k.op, k.ty, k.card] l p) k.ver) else none
  | [], k, l, h, _ => by simp [go, setAll, rowKey, h]
  | n :: p, k, l, h, hl => by
    simp only [List.length_cons] at hl
    have hl' : l = 0 ∨ l = 1 ∨ l = 2 := by omega
    have hc := levelC k
    have hr : ((atK k l n).op :: (atK k l n).ty :: [(atK k l n).card]) = [k.op, k.ty, k.card].set l n := by
      rcases hl' with rfl | rfl | rfl <;> simp [atK]
    simp only [go, setAll, List.length_cons, Int.toNat_natCast]
    by_cases hg : n = 0 ∨ right (atK k l n) = false
    · rw [if_pos hg]
      refine (if_neg ?_).symm
      intro hf
      have g : ∀ i, i ≤ l → (setAll ([k.op, k.ty, k.card].set l n) (l + 1) p).getD i 0 = ([k.op, k.ty, k.card].set l n).getD i 0 := fun i hi => setAll_get (by omega) (by omega)
      have hK := levelC (rowKey (setAll ([k.op, k.ty, k.card].set l n) (l + 1) p) k.ver)
      have hA : n = 0 ∨ ¬ _ := hg.imp id fun h0 => by
        rcases levelC (atK k l n) with ⟨_, _, h1⟩ | ⟨h1, _⟩
        · exact h1
        · rw [h0] at h1; cases h1
      clear hg
      rcases hl' with rfl | rfl | rfl
      · have g0 := g 0 (by omega)
        simp at g0
        simp [rowKey, atK, g0] at *
        omega
      · have g0 := g 0 (by omega)
        have g1 := g 1 (by omega)
        simp at g0 g1
        simp [rowKey, atK, g0, g1] at *
        omega
      · have g0 := g 0 (by omega)
        have g1 := g 1 (by omega)
        have g2 := g 2 (by omega)
        simp at g0 g1 g2
        simp [rowKey, atK, g0, g1, g2] at *
        omega
    · rw [if_neg hg]
      have hn : n ≠ 0 := fun h => hg (.inl h)
      have hr' : right (atK k l n) = true := by cases h : right (atK k l n) <;> simp_all
      have hlv : level (atK k l n) = (l + 1 : Nat) := by
        have hA := levelC (atK k l n)
        rw [hr'] at hA
        rcases hl' with rfl | rfl | rfl <;> simp [atK] at * <;> omega
      have := go_set p (atK k l n) (l + 1) hlv (by omega)
      rw [hr] at this
      change go _ ((l : Int) + 1) p = _ at this
      simp only [show (atK k l n).ver = k.ver from rfl] at this
      rw [this]
      have e : ((l + 1 : Nat) : Int) + (p.length : Int) = (l : Int) + ((p.length + 1 : Nat) : Int) := by omega
      by_cases hq : level (rowKey (setAll ([k.op, k.ty, k.card].set l n) ((l + 1 : Nat) : Int) p) k.ver) = (l : Int) + ((p.length + 1 : Nat) : Int)
      · rw [if_pos (by rw [e]; exact hq)]; exact (if_pos hq).symm
      · rw [if_neg (by rw [e]; exact hq)]; exact (if_neg hq).symm
theorem derive_ref (k : Key) (p : List Int) : derive k p = refDerive k p := by
  have hr := level_range k
  unfold derive refDerive
  by_cases h1 : level k < 0
  · rw [if_pos h1, if_pos h1]
  rw [if_neg h1, if_neg h1]
  by_cases h2 : level k + p.length > 3
  · rw [if_pos h2, if_pos h2]
  rw [if_neg h2, if_neg h2]
  have := go_set p k (level k).toNat (by omega) (by omega)
  rw [show ((level k).toNat : Int) = level k by omega] at this
  rw [this]
  by_cases h3 : level (rowKey (setAll [k.op, k.ty, k.card] (level k) p) k.ver) = level k + p.length
  · rw [if_pos h3, if_neg (by simp [h3])]
  · rw [if_neg h3, if_pos h3]


end Go.Proofs.Ytncdakkigkmfjaa.Sx
