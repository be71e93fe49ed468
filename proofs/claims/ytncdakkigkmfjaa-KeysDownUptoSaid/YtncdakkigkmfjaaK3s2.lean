import Derived.Test.YtncdakkigkmfjaaProg
import Derived.Test.YtncdakkigkmfjaaSxU
import Derived.IntWalk
import Derived.Test.YtncdakkigkmfjaaK3s1
/-! fareboxlaw09 -/
namespace Go.Proofs.Ytncdakkigkmfjaa.Sx
open Go
set_option linter.unusedVariables false
set_option linter.unusedSimpArgs false
set_option maxRecDepth 100000


theorem anc_level : ∀ {n : Nat} {x a : Key}, level x = n → anc n x a = true → x = a ∨ (0 ≤ level a ∧ level a < n)
  | 0, x, a, hl, h => by simp [anc] at h; exact .inl h
  | n + 1, x, a, hl, h => by
    simp only [anc, Bool.or_eq_true, decide_eq_true_eq] at h
    rcases h with h | h
    · exact .inl h
    · have hu := level_up hl
      rcases anc_level (n := n) hu h with h1 | h1
      · subst h1; right; omega
      · right; omega
theorem from_one {a b : Key} : fromK a [b] = (right a && anc (level a).toNat a b) := by simp [fromK]
theorem from_nil {a : Key} : fromK a [] = right a := by simp [fromK]
theorem apartC (a b : Key) : fromK a [b] = false ∨ (fromK a [b] = true ∧ right a = true ∧ fromK b [a] = decide (a = b) ∧ level b ≤ level a ∧ a.ver = b.ver) := by
  cases h : fromK a [b]
  · exact .inl rfl
  · refine .inr ⟨rfl, ?_⟩
    rw [from_one, Bool.and_eq_true] at h
    obtain ⟨hr, ha⟩ := h
    have hl := level_right.2 hr
    refine ⟨hr, ?_⟩
    rcases anc_level (n := (level a).toNat) (by omega) ha with h1 | ⟨h1, h2⟩
    · subst h1
      simp [from_one, hr, ha]
    · have hne : a ≠ b := by intro e; subst e; omega
      refine ⟨?_, by omega, anc_ver ha⟩
      rw [decide_eq_false hne, from_one, Bool.and_eq_false_iff]
      right
      cases hb : anc (level b).toNat b a with
      | false => rfl
      | true =>
        rcases anc_level (n := (level b).toNat) (by omega) hb with h3 | ⟨h3, h4⟩
        · exact absurd h3.symm hne
        · omega
theorem rollD (a b : Key) : (right a = false ∧ roll a = (zkey, 2)) ∨ (right a = true ∧ a.ver = 255 ∧ roll a = (zkey, 29)) ∨ (right a = true ∧ a.ver ≠ 255 ∧ roll a = (⟨a.op, a.ty, a.card, a.ver + 1⟩, 0) ∧ level ⟨a.op, a.ty, a.card, a.ver + 1⟩ = level a ∧ right ⟨a.op, a.ty, a.card, a.ver + 1⟩ = true ∧ (a.ver = b.ver → fromK ⟨a.op, a.ty, a.card, a.ver + 1⟩ [b] = false)) := by
  rcases rollC a with h | h | ⟨h1, h2, h3, h4, h5⟩
  · exact .inl h
  · exact .inr (.inl h)
  · refine .inr (.inr ⟨h1, h2, h3, ?_⟩)
    have hr : right ⟨a.op, a.ty, a.card, a.ver + 1⟩ = true := by simp [right] at *; omega
    exact ⟨by simp only [level, h1, hr], hr, fun h => from_ver (by simp; omega)⟩


end Go.Proofs.Ytncdakkigkmfjaa.Sx
