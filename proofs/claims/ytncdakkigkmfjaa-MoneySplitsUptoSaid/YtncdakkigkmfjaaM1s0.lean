import Derived.Test.YtncdakkigkmfjaaProg
import Derived.Test.YtncdakkigkmfjaaSxU
import Derived.IntWalk
import Derived.Test.YtncdakkigkmfjaaF2
/-! money -/
namespace Go.Proofs.Ytncdakkigkmfjaa.Sx
open Go
set_option linter.unusedVariables false
set_option linter.unusedSimpArgs false
set_option maxRecDepth 100000

def cmpI (x y : Int) : Int := if x < y then -1 else if y < x then 1 else 0
def rightM (a : Int) (ws : List Int) : Bool := decide (0 ≤ a) && decide (a ≤ 2147483648) && decide (ws.length ≤ 16) && ws.all (fun w => decide (0 ≤ w) && decide (w ≤ 1000)) && ws.any (fun w => decide (0 < w))
def keyM (a : Int) (ws : List Int) (all i : Int) : Int := (a * ws.getD i.toNat 0) % all
/-- What is known where keys are reckoned. -/
def OkM (a : Int) (ws : List Int) (all : Int) : Prop := 0 ≤ a ∧ a ≤ 2147483648 ∧ ws.length ≤ 16 ∧ (∀ w ∈ ws, 0 ≤ w ∧ w ≤ 1000) ∧ 0 < all ∧ all ≤ 16000
def IdxM (n : Nat) (l : List Int) : Prop := ∀ i ∈ l, 0 ≤ i ∧ i < n
def insRev (key : Int → Int) (x : Int) : List Int → List Int
  | [] => [x]
  | y :: r => if key y < key x then y :: insRev key x r else x :: y :: r
def insD (key : Int → Int) (x : Int) (l : List Int) : List Int := (insRev key x l.reverse).reverse
def sortD (key : Int → Int) : List Int → List Int
  | l => l.foldl (fun s x => insD key x s) []
theorem mulM {a w : Int} (h : 0 ≤ a) (h' : a ≤ 2147483648) (k : 0 ≤ w) (k' : w ≤ 1000) : 0 ≤ a * w ∧ a * w ≤ 2147483648000 := by
  refine ⟨Int.mul_nonneg h k, ?_⟩
  have := Int.mul_le_mul h' k' k (by decide)
  omega
theorem rightM_bad {a : Int} {ws : List Int} {j : Nat} (hj : j < ws.length) (h : ws.getD j 0 < 0 ∨ 1000 < ws.getD j 0) : rightM a ws = false := by
  rw [← Bool.not_eq_true]
  intro hc
  unfold rightM at hc
  simp only [Bool.and_eq_true] at hc
  have := all_getD (d := (0 : Int)) hc.1.2 hj
  simp only [Bool.and_eq_true, decide_eq_true_eq] at this
  omega
def IRM (ws : List Int) (i : Int) (some_ : Bool) : Prop := ∃ j : Nat, j ≤ ws.length ∧ i = j ∧ (ws.take j).all (fun w => decide (0 ≤ w) && decide (w ≤ 1000)) = true ∧ some_ = (ws.take j).any (fun w => decide (0 < w))


end Go.Proofs.Ytncdakkigkmfjaa.Sx
