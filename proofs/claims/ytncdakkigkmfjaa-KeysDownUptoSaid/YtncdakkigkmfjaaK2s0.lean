import Derived.Test.YtncdakkigkmfjaaProg
import Derived.Test.YtncdakkigkmfjaaSxU
import Derived.IntWalk
import Derived.Test.YtncdakkigkmfjaaK1
/-! fareboxref09 -/
namespace Go.Proofs.Ytncdakkigkmfjaa.Sx
open Go
set_option linter.unusedVariables false
set_option linter.unusedSimpArgs false
set_option maxRecDepth 100000


def goodK (k : Key) (i : Nat) : Prop := (0 < i → 0 ≤ k.op ∧ k.op ≤ 4) ∧ (1 < i → 0 ≤ k.ty ∧ k.ty ≤ 4 ∧ (k.ty ≠ 0 → k.op ≠ 0)) ∧ (2 < i → 0 ≤ k.card ∧ k.card ≤ 65535 ∧ (k.card ≠ 0 → k.ty ≠ 0))


end Go.Proofs.Ytncdakkigkmfjaa.Sx
