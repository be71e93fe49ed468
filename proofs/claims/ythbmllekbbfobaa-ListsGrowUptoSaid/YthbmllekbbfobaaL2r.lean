import Derived.Test.YthbmllekbbfobaaProg
import Derived.Test.YthbmllekbbfobaaSxU
import Derived.IntWalk
import Derived.Test.YthbmllekbbfobaaL1
/-! lists, Concat -/
namespace Go.Proofs.Ythbmllekbbfobaa.Sx
open Go
set_option linter.unusedVariables false
set_option linter.unusedSimpArgs false
set_option maxRecDepth 100000

theorem splice_length' {α : Type} {l r : List α} {j : Nat} : (splice l j r).length = min j l.length + r.length + (l.length - (j + r.length)) := by
  simp [splice]; omega
theorem splice_two {α : Type} {x0 x1 : List α} {z : α} : splice (splice (List.replicate (x0.length + x1.length) z) (0 + 0) x0) (0 + (0 + x0.length)) x1 = x0 ++ x1 := by
  simp [splice]


end Go.Proofs.Ythbmllekbbfobaa.Sx
