import Derived.Test.YthbmllekbbfobaaProg
import Derived.Test.YthbmllekbbfobaaSxU
import Derived.IntWalk
import Derived.Test.YthbmllekbbfobaaF1
/-! ipe, numbers -/
namespace Go.Proofs.Ythbmllekbbfobaa.Sx
open Go
set_option linter.unusedVariables false
set_option linter.unusedSimpArgs false
set_option maxRecDepth 100000

def b2i (b : Bool) : Int := bif b then 1 else 0
def numsP (p : Product) : List Int := [p.kind, p.owner, p.id, p.card, p.ver, p.value, p.last, p.rides, b2i p.open_, p.zone, p.day, p.txn, p.act, b2i p.blocked]
def loP : List Int := [1, 1, 1, 1, 1, 0, 0, 0, 0, 0, 0, 0, 0, 0]
def hiP : List Int := [4, 4, 65535, 65535, 255, 2147483648, 65535, 255, 1, 255, 65535, 65535, 65535, 1]
def okN (ns : List Int) (k : Nat) : Bool := decide (loP.getD k 0 ≤ ns.getD k 0) && decide (ns.getD k 0 ≤ hiP.getD k 0)
def okUp (ns : List Int) : Nat → Bool
  | 0 => true
  | k + 1 => okUp ns k && okN ns k
def rightP (p : Product) : Bool := okUp (numsP p) 14
def INp (p : Product) (i : Int) (ns : List Int) (ok : Bool) : Prop := ∃ j : Nat, j ≤ 14 ∧ i = j ∧ ns = (numsP p).take j ∧ ok = okUp (numsP p) j


end Go.Proofs.Ythbmllekbbfobaa.Sx
