import Derived.Test.YtncdakkigkmfjaaProg
import Derived.Test.YtncdakkigkmfjaaSxU
import Derived.IntWalk
import Derived.Test.YtncdakkigkmfjaaKb
/-! keys -/
namespace Go.Proofs.Ytncdakkigkmfjaa.Sx
open Go
set_option linter.unusedVariables false
set_option linter.unusedSimpArgs false
set_option maxRecDepth 100000

/-- keys.Right -/
def right (k : Key) : Bool := decide (k.ver ≥ 1) && decide (k.ver ≤ 255) && decide (k.op ≥ 0) && decide (k.op ≤ 4) && decide (k.ty ≥ 0) && decide (k.ty < 5) && decide (k.card ≥ 0) && decide (k.card ≤ 65535) && (decide (k.op ≠ 0) || decide (k.ty = 0)) && (decide (k.ty ≠ 0) || decide (k.card = 0))
def level (k : Key) : Int := if right k = false then -1 else if k.card ≠ 0 then 3 else if k.ty ≠ 0 then 2 else if k.op ≠ 0 then 1 else 0
def atK (k : Key) (l n : Int) : Key := ⟨if l = 0 then n else k.op, if l = 1 then n else k.ty, if l = 2 then n else k.card, k.ver⟩
def zkey : Key := ⟨0, 0, 0, 0⟩
def go (k : Key) (l : Int) : List Int → Option Key
  | [] => some k
  | n :: p => if n = 0 ∨ right (atK k l n) = false then none else go (atK k l n) (l + 1) p
def derive (k : Key) (p : List Int) : Key × Int :=
  if level k < 0 then (zkey, 2) else if level k + p.length > 3 then (zkey, 15) else match go k (level k) p with
    | some x => (x, 0)
    | none => (zkey, 2)
theorem level_range (k : Key) : -1 ≤ level k ∧ level k ≤ 3 := by
  unfold level; split <;> (try split) <;> (try split) <;> (try split) <;> omega


end Go.Proofs.Ytncdakkigkmfjaa.Sx
