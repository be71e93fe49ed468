import Derived.Test.YthbmllekbbfobaaProg
import Derived.Test.YthbmllekbbfobaaSxU
import Derived.IntWalk
import Derived.Test.YthbmllekbbfobaaL4
/-! lists, small functions -/
namespace Go.Proofs.Ythbmllekbbfobaa.Sx
open Go
set_option linter.unusedVariables false
set_option linter.unusedSimpArgs false
set_option maxRecDepth 100000

def namedI (x : Item) : Bool := decide ((0 ≤ x.card ∧ x.card ≤ 65535) ∧ (0 ≤ x.owner ∧ x.owner ≤ 4) ∧ (0 ≤ x.id ∧ x.id ≤ 65535) ∧ (x.owner = 0 ↔ x.id = 0) ∧ (x.owner ≠ 0 ∨ x.card ≠ 0))
def hotI (x : Item) : Bool := namedI x && decide (x.number = 0 ∧ x.amount = 0)
def actI (x : Item) : Bool := namedI x && decide (x.owner ≠ 0 ∧ (1 ≤ x.number ∧ x.number ≤ 65535) ∧ 0 ≤ x.amount ∧ x.amount ≤ 2147483648)
def rightI (act : Bool) (x : Item) : Bool := if act then actI x else hotI x
theorem named_eta (x : Item) : namedI ⟨x.card, x.owner, x.id, x.number, x.amount⟩ = namedI x := rfl
def aboutI (x : Item) (card owner id : Int) : Bool := decide (x.owner ≠ 0 ∧ x.owner = owner ∧ x.id = id ∧ (x.card = 0 ∨ x.card = card))
theorem about_eta (x : Item) (a b c : Int) : aboutI ⟨x.card, x.owner, x.id, x.number, x.amount⟩ a b c = aboutI x a b c := rfl
def hitI (card owner id : Int) (x : Item) : Bool := decide (x.owner = 0 ∧ x.card = card) || aboutI x card owner id
def eqI (x y : Item) : Bool := decide (x = y)
theorem any_eqI (x : Item) (l : List Item) : l.any (eqI x) = decide (x ∈ l) := by
  rw [Bool.eq_iff_iff, List.any_eq_true]
  simp only [eqI, decide_eq_true_eq]
  exact ⟨fun ⟨y, h, e⟩ => e ▸ h, fun h => ⟨x, h, rfl⟩⟩


end Go.Proofs.Ythbmllekbbfobaa.Sx
