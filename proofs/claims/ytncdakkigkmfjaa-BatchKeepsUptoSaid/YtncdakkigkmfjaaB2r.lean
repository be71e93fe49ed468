import Derived.Test.YtncdakkigkmfjaaProg
import Derived.Test.YtncdakkigkmfjaaSxU
import Derived.IntWalk
import Derived.Test.YtncdakkigkmfjaaB1
/-! batch, Pack -/
namespace Go.Proofs.Ytncdakkigkmfjaa.Sx
open Go
set_option linter.unusedVariables false
set_option linter.unusedSimpArgs false
set_option maxRecDepth 100000


def canP (n : Int) (loose : List Journey) : Bool := decide (loose ≠ []) && decide (n ≠ 2147483647)
def packX (op n : Int) (loose : List Journey) : Batch := if canP n loose then ⟨op, n + 1, loose.take 8⟩ else zB
def packL (n : Int) (loose : List Journey) : List Journey := if canP n loose then loose.drop 8 else loose
def packN (n : Int) (loose : List Journey) : Int := if canP n loose then n + 1 else n
theorem kTake (l : List Journey) : l.take ((if 8 < (l.length : Int) then (8 : Int) else l.length).toNat) = l.take 8 := by
  split
  · rfl
  · rw [List.take_of_length_le (by omega), List.take_of_length_le (by omega)]
theorem kDrop (l : List Journey) : (l.drop ((if 8 < (l.length : Int) then (8 : Int) else l.length).toNat)).take (l.length - ((if 8 < (l.length : Int) then (8 : Int) else l.length).toNat)) = l.drop 8 := by
  rw [List.take_of_length_le (by rw [List.length_drop]; exact Nat.le_refl _)]
  split
  · rfl
  · rw [List.drop_of_length_le (by omega), List.drop_of_length_le (by omega)]
theorem canP_no {n : Int} {loose : List Journey} (h : (loose.length : Int) = 0 ∨ n = 2147483647) : canP n loose = false := by
  unfold canP
  rcases h with h | h
  · have : loose = [] := List.eq_nil_of_length_eq_zero (by omega)
    simp [this]
  · simp [h]
theorem canP_yes {n : Int} {loose : List Journey} (h : (loose.length : Int) ≠ 0) (h' : n ≠ 2147483647) : canP n loose = true := by
  unfold canP
  have : loose ≠ [] := by rintro rfl; exact h rfl
  simp [this, h']
def packO (op n : Int) (loose : List Journey) (open_ : List Batch) : List Batch := if canP n loose then open_ ++ [⟨op, n + 1, loose.take 8⟩] else open_


end Go.Proofs.Ytncdakkigkmfjaa.Sx
