import Derived.Test.YtncdakkigkmfjaaProg
import Derived.Test.YtncdakkigkmfjaaSxU
import Derived.IntWalk
import Derived.Test.YtncdakkigkmfjaaF4
/-! FareCosts -/
namespace Go.Proofs.Ytncdakkigkmfjaa.Sx
open Go
set_option linter.unusedVariables false
set_option linter.unusedSimpArgs false
set_option maxRecDepth 100000


def IFA (c : Config) (f t : Int) (i n : Int) : Prop := ∃ k : Nat, i = f + k ∧ (i ≤ t ∨ k = 0) ∧ n = c.base + c.step * k
def IFB (c : Config) (f t : Int) (i n : Int) : Prop := ∃ k : Nat, i = t + k ∧ (i ≤ f ∨ k = 0) ∧ n = c.base + c.step * (max (t - f) 0 + k)
theorem fareC_no {c : Config} {f t : Int} (h : rightC c = false ∨ f < 0 ∨ 255 < f ∨ t < 0 ∨ 255 < t) : fareC c f t = 0 := by
  unfold fareC
  rcases h with h | h
  · exact if_pos (.inl h)
  · refine if_pos (.inr ?_)
    rw [← Bool.not_eq_true, in2_iff]
    omega
theorem fareC_two (c : Config) (f t : Int) : fareC c f t = fareC c t f := by
  unfold fareC
  have h : inR 0 255 [f, t] = inR 0 255 [t, f] := by rw [Bool.eq_iff_iff, in2_iff, in2_iff]; exact And.comm
  rw [h, Int.max_comm]
theorem fareC_bounds (c : Config) (f t : Int) : 0 ≤ fareC c f t ∧ fareC c f t ≤ max c.cap 0 := by
  by_cases h : rightC c = true ∧ inR 0 255 [f, t] = true
  · rw [fareC_ok h.1 h.2]
    have h1 := (rightC_iff c).1 h.1
    have h2 := (in2_iff f t).1 h.2
    have hm := fare_mul (a := c.step) (b := max (f - t) (t - f)) (by omega) (by omega) (by omega) (by omega)
    omega
  · unfold fareC
    rw [if_pos (by
      cases h1 : rightC c
      · exact .inl rfl
      · right; cases h2 : inR 0 255 [f, t]
        · rfl
        · exact absurd ⟨h1, h2⟩ h)]
    omega
theorem fareC_far (c : Config) (f t : Int) (h : f ≤ t) (h0 : 0 ≤ f) (h1 : t < 255) : fareC c f t ≤ fareC c f (t + 1) := by
  by_cases hr : rightC c = true
  · have hr' := (rightC_iff c).1 hr
    rw [fareC_ok hr ((in2_iff _ _).2 (by omega)), fareC_ok hr ((in2_iff _ _).2 (by omega))]
    rw [show max (f - t) (t - f) = t - f by omega, show max (f - (t + 1)) (t + 1 - f) = (t - f) + 1 by omega, Int.mul_add]
    omega
  · unfold fareC
    have : rightC c = false := by cases h : rightC c <;> simp_all
    rw [if_pos (.inl this), if_pos (.inl this)]
    exact Int.le_refl _


end Go.Proofs.Ytncdakkigkmfjaa.Sx
