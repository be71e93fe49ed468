import Derived.Test.YtncdakkigkmfjaaProg
import Derived.Test.YtncdakkigkmfjaaSxU
import Derived.IntWalk
import Derived.Test.YtncdakkigkmfjaaK2
/-! fareboxlaw09.awake -/
namespace Go.Proofs.Ytncdakkigkmfjaa.Sx
open Go
set_option linter.unusedVariables false
set_option linter.unusedSimpArgs false
set_option maxRecDepth 100000


theorem aw1 : derive ⟨0, 0, 0, 1⟩ [2, 1, 77] = (⟨2, 1, 77, 1⟩, 0) := by decide
theorem aw2 : parent ⟨2, 1, 77, 1⟩ = (⟨2, 1, 0, 1⟩, 0) := by decide
theorem aw3 : fromK ⟨2, 1, 77, 1⟩ [⟨2, 0, 0, 1⟩] = true := by decide


end Go.Proofs.Ytncdakkigkmfjaa.Sx
