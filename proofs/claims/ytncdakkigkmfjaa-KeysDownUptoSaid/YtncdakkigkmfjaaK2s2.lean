import Derived.Test.YtncdakkigkmfjaaProg
import Derived.Test.YtncdakkigkmfjaaSxU
import Derived.IntWalk
import Derived.Test.YtncdakkigkmfjaaK2s1
/-! fareboxref09 -/
namespace Go.Proofs.Ytncdakkigkmfjaa.Sx
open Go
set_option linter.unusedVariables false
set_option linter.unusedSimpArgs false
set_option maxRecDepth 100000


def cntK (k : Key) (i : Nat) : Int := (if 0 < i ∧ k.op ≠ 0 then 1 else 0) + (if 1 < i ∧ k.ty ≠ 0 then 1 else 0) + (if 2 < i ∧ k.card ≠ 0 then 1 else 0)
theorem cntK_level {k : Key} (h : right k = true) : cntK k 3 = level k := by
  unfold cntK level right at *
  simp at *
  (repeat' split) <;> omega


end Go.Proofs.Ytncdakkigkmfjaa.Sx
