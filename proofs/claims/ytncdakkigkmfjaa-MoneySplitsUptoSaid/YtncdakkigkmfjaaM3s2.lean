import Derived.Test.YtncdakkigkmfjaaProg
import Derived.Test.YtncdakkigkmfjaaSxU
import Derived.IntWalk
import Derived.Test.YtncdakkigkmfjaaM3s1
/-! fareboxref05, Split -/
namespace Go.Proofs.Ytncdakkigkmfjaa.Sx
open Go
set_option linter.unusedVariables false
set_option linter.unusedSimpArgs false
set_option maxRecDepth 100000

theorem awk1 : splitL 10 [1, 1, 1] = [4, 3, 3] ∧ splitE 10 [1, 1, 1] = 0 ∧ sumV [1, -1, 7] = 7 ∧ sumE [1, -1, 7] = 0 := by decide
theorem splitL_length {a : Int} {ws : List Int} : (splitL a ws).length ≤ ws.length := by
  unfold splitL
  split
  · rw [mapTo_length]; exact Nat.le_refl _
  · simp
theorem splitL_len {a : Int} {ws : List Int} (h : rightM a ws = true) : (splitL a ws).length = ws.length := by
  unfold splitL
  rw [if_pos h, mapTo_length]


end Go.Proofs.Ytncdakkigkmfjaa.Sx
