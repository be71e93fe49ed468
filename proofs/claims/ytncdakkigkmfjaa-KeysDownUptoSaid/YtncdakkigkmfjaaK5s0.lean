import Derived.Test.YtncdakkigkmfjaaProg
import Derived.Test.YtncdakkigkmfjaaSxU
import Derived.IntWalk
import Derived.Test.YtncdakkigkmfjaaK4
/-! fareboxlaw09 -/
namespace Go.Proofs.Ytncdakkigkmfjaa.Sx
open Go
set_option linter.unusedVariables false
set_option linter.unusedSimpArgs false
set_option maxRecDepth 100000


theorem derive_go {k : Key} {p : List Int} (h : (derive k p).2 = 0) : 0 ≤ level k ∧ level k + p.length ≤ 3 ∧ go k (level k) p = some (derive k p).1 := by
  unfold derive at *
  split at h
  · cases h
  split at h
  · cases h
  rename_i h1 h2
  rw [if_neg h1, if_neg h2]
  refine ⟨by omega, by omega, ?_⟩
  split at h
  · rename_i x hx; rw [hx]
  · cases h
theorem derive_bad {k : Key} {p : List Int} (h : (derive k p).2 ≠ 0) : (derive k p).1 = zkey := by
  unfold derive at *
  (repeat' split at h) <;> (repeat' split) <;> simp_all
def Way (root : Key) (w : List Key) : Prop := w.getD 0 ⟨0, 0, 0, 0⟩ = root ∧ ∀ m, m + 1 < w.length → ∃ n : Nat, level (w.getD m ⟨0, 0, 0, 0⟩) = n ∧ level (w.getD (m + 1) ⟨0, 0, 0, 0⟩) = (n + 1 : Nat) ∧ parent (w.getD (m + 1) ⟨0, 0, 0, 0⟩) = (w.getD m ⟨0, 0, 0, 0⟩, 0)
theorem step_one {st k : Key} {l : Nat} {n : Int} {p : List Int} (hl : level st = l) (hp : l + (p.length + 1) ≤ 3) (h : go st l (n :: p) = some k) :
    derive st [n] = (atK st l n, 0) ∧ level (atK st l n) = (l + 1 : Nat) ∧ parent (atK st l n) = (st, 0) ∧ go (atK st l n) ((l + 1 : Nat) : Int) p = some k := by
  simp only [go] at h
  split at h
  · cases h
  rename_i hg
  have hl' : l = 0 ∨ l = 1 ∨ l = 2 := by omega
  have hc := levelC st
  have hr' : right (atK st l n) = true := by cases h : right (atK st l n) <;> simp_all
  have hlv : level (atK st l n) = (l + 1 : Nat) := by
    have hA := levelC (atK st l n)
    rw [hr'] at hA
    have hn : n ≠ 0 := fun h => hg (.inl h)
    rcases hl' with rfl | rfl | rfl <;> simp [atK] at * <;> omega
  refine ⟨?_, hlv, ?_, h⟩
  · unfold derive
    rw [if_neg (by omega), if_neg (by simp; omega), hl]
    simp only [go]
    rw [if_neg hg]
  · rw [parent_up hlv]
    obtain ⟨a, b, c, d⟩ := st
    rcases hl' with rfl | rfl | rfl <;> simp [atK] at * <;> omega
theorem way_anc {root : Key} {w : List Key} (h : Way root w) : ∀ (q m : Nat), m + q < w.length → anc (level (w.getD (m + q) ⟨0, 0, 0, 0⟩)).toNat (w.getD (m + q) ⟨0, 0, 0, 0⟩) (w.getD m ⟨0, 0, 0, 0⟩) = true
  | 0, m, _ => anc_self _ _
  | q + 1, m, hq => by
    obtain ⟨n, h1, h2, h3⟩ := h.2 (m + q) (by omega)
    have ih := way_anc h q m (by omega)
    rw [h1] at ih
    rw [show m + (q + 1) = m + q + 1 by omega, h2]
    rw [parent_up h2] at h3
    simp only [Prod.mk.injEq, and_true] at h3
    show (_ || anc n (atK _ n 0) _) = true
    rw [h3]
    simp only [Int.toNat_natCast] at ih
    rw [ih, Bool.or_true]
theorem way_from {root : Key} {w : List Key} {j : Nat} (h : Way root w) (hl : w.length = j + 1) (hr : 0 ≤ level (w.getD j ⟨0, 0, 0, 0⟩)) : fromK (w.getD j ⟨0, 0, 0, 0⟩) w = true := by
  unfold fromK
  rw [Bool.and_eq_true]
  refine ⟨level_right.1 hr, ?_⟩
  rw [List.all_eq_true]
  intro a ha
  obtain ⟨i, hi, rfl⟩ := List.getElem_of_mem ha
  have := way_anc h (j - i) i (by omega)
  rw [show i + (j - i) = j by omega, show w.getD i ⟨0, 0, 0, 0⟩ = w[i] by simp [List.getD, hi]] at this
  exact this
theorem way_up {root : Key} {w : List Key} {st : Key} {j l : Nat} {n : Int} (h : Way root w) (hl : w.length = j + 1) (hs : w.getD j ⟨0, 0, 0, 0⟩ = st) (h1 : level st = l) (h2 : level (atK st l n) = (l + 1 : Nat)) (h3 : parent (atK st l n) = (st, 0)) : Way root (w ++ [atK st l n]) := by
  refine ⟨?_, fun m hm => ?_⟩
  · rw [← h.1]; simp [List.getD, List.getElem?_append, hl]
  · rw [List.length_append, List.length_singleton] at hm
    have e1 : (w ++ [atK st l n]).getD m ⟨0, 0, 0, 0⟩ = w.getD m ⟨0, 0, 0, 0⟩ := by simp [List.getD, List.getElem?_append, show m < w.length by omega]
    rw [e1]
    by_cases e : m + 1 < w.length
    · rw [show (w ++ [atK st l n]).getD (m + 1) ⟨0, 0, 0, 0⟩ = w.getD (m + 1) ⟨0, 0, 0, 0⟩ by simp [List.getD, List.getElem?_append, e]]
      exact h.2 m e
    · obtain rfl : m = j := by omega
      rw [show (w ++ [atK st l n]).getD (m + 1) ⟨0, 0, 0, 0⟩ = atK st l n by simp [List.getD, List.getElem?_append, hl], hs]
      exact ⟨l, h1, h2, h3⟩



theorem from_up {x a : Key} (h : level x < level a) : fromK x [a] = false := by
  rw [from_ref]
  simp [refFrom, h]
theorem way_prev {root : Key} {w : List Key} {i : Nat} (h : Way root w) (hi : 0 < i) (hl : i < w.length) : parent (w.getD i ⟨0, 0, 0, 0⟩) = (w.getD (i - 1) ⟨0, 0, 0, 0⟩, 0) ∧ fromK (w.getD (i - 1) ⟨0, 0, 0, 0⟩) [w.getD i ⟨0, 0, 0, 0⟩] = false := by
  obtain ⟨n, h1, h2, h3⟩ := h.2 (i - 1) (by omega)
  rw [show i - 1 + 1 = i by omega] at h2 h3
  exact ⟨h3, from_up (by omega)⟩


end Go.Proofs.Ytncdakkigkmfjaa.Sx
