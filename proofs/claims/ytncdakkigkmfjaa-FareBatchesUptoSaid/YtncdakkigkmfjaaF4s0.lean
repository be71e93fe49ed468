import Derived.Test.YtncdakkigkmfjaaProg
import Derived.Test.YtncdakkigkmfjaaSxU
import Derived.IntWalk
import Derived.Test.YtncdakkigkmfjaaF3
/-! fare, its laws -/
namespace Go.Proofs.Ytncdakkigkmfjaa.Sx
open Go
set_option linter.unusedVariables false
set_option linter.unusedSimpArgs false
set_option maxRecDepth 100000


structure Config where
  base : Int
  step : Int
  cap : Int
def rightC (c : Config) : Bool := inR 0 1000000 [c.base, c.step, c.cap]
def fareC (c : Config) (f t : Int) : Int := if rightC c = false ∨ inR 0 255 [f, t] = false then 0 else min c.cap (c.base + c.step * max (f - t) (t - f))
theorem rightC_iff (c : Config) : rightC c = true ↔ (0 ≤ c.base ∧ c.base ≤ 1000000) ∧ (0 ≤ c.step ∧ c.step ≤ 1000000) ∧ (0 ≤ c.cap ∧ c.cap ≤ 1000000) := by
  simp [rightC, inR_iff]
theorem in2_iff (f t : Int) : inR 0 255 [f, t] = true ↔ (0 ≤ f ∧ f ≤ 255) ∧ (0 ≤ t ∧ t ≤ 255) := by
  simp [inR_iff]
theorem fareC_ok {c : Config} {f t : Int} (h : rightC c = true) (k : inR 0 255 [f, t] = true) : fareC c f t = min c.cap (c.base + c.step * max (f - t) (t - f)) := by
  unfold fareC
  rw [if_neg (by simp [h, k])]
theorem fare_mul {a b : Int} (h : 0 ≤ a) (h' : a ≤ 1000000) (k : 0 ≤ b) (k' : b ≤ 255) : 0 ≤ a * b ∧ a * b ≤ 255000000 := by
  refine ⟨Int.mul_nonneg h k, ?_⟩
  have := Int.mul_le_mul h' k' k (by decide)
  omega


end Go.Proofs.Ytncdakkigkmfjaa.Sx
