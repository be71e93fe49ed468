import Derived.Test.YthbmllekbbfobaaProg
import Derived.Test.YthbmllekbbfobaaSxU
import Derived.IntWalk
import Derived.Test.YthbmllekbbfobaaF1
/-! lists -/
namespace Go.Proofs.Ythbmllekbbfobaa.Sx
open Go
set_option linter.unusedVariables false
set_option linter.unusedSimpArgs false
set_option maxRecDepth 100000

def badN (n : Int) : Bool := decide (n < 0) || decide (2147483648 < n)
def badAt (x : Item) : Int := if badN x.card then 0 else if badN x.owner then 1 else if badN x.id then 2 else if badN x.number then 3 else if badN x.amount then 4 else -1


end Go.Proofs.Ythbmllekbbfobaa.Sx
