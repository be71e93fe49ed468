import Derived.Test.YthbmllekbbfobaaProg
import Derived.Test.YthbmllekbbfobaaSxU
import Derived.IntWalk
import Derived.Test.YthbmllekbbfobaaL4
/-! lists, small functions -/
namespace Go.Proofs.Ythbmllekbbfobaa.Sx
open Go
set_option linter.unusedVariables false
set_option linter.unusedSimpArgs false
set_option maxRecDepth 100000

def namedI (x : Item) : Bool := decide ((0 ≤ x.card ∧ x.card ≤ 65535) ∧ (0 ≤ x.owner ∧ x.owner ≤ 4) ∧ (0 ≤ x.id ∧ x.id ≤ 65535) ∧ (x.owner = 0 ↔ x.id = 0) ∧ (x.owner ≠ 0 ∨ x.card ≠ 0))
def hotI (x : Item) : Bool := namedI x && decide (x.number = 0 ∧ x.amount = 0)
def actI (x : Item) : Bool := namedI x && decide (x.owner ≠ 0 ∧ (1 ≤ x.number ∧ x.number ≤ 65535) ∧ 0 ≤ x.amount ∧ x.amount ≤ 2147483648)
def rightI (act : Bool) (x : Item) : Bool := if act then actI x else hotI x
theorem named_eta (x : Item) : namedI ⟨x.card, x.owner, x.id, x.number, x.amount⟩ = namedI x := rfl
def aboutI (x : Item) (card owner id : Int) : Bool := decide (x.owner ≠ 0 ∧ x.owner = owner ∧ x.id = id ∧ (x.card = 0 ∨ x.card = card))
theorem about_eta (x : Item) (a b c : Int) : aboutI ⟨x.card, x.owner, x.id, x.number, x.amount⟩ a b c = aboutI x a b c := rfl
def hitI (card owner id : Int) (x : Item) : Bool := decide (x.owner = 0 ∧ x.card = card) || aboutI x card owner id
def idxP {α : Type} (p : α → Bool) : List α → Int → Int
  | [], _ => -1
  | y :: l, i => if p y = true then i else idxP p l (i + 1)
theorem idxP_none {α : Type} {p : α → Bool} : ∀ {l : List α} {k : Int}, l.any p = false → idxP p l k = -1
  | [], _, _ => rfl
  | y :: l, k, h => by
    rw [List.any_cons, Bool.or_eq_false_iff] at h
    rw [idxP, if_neg (by rw [h.1]; simp), idxP_none h.2]
theorem idxP_at {α : Type} {p : α → Bool} : ∀ {l : List α} {j : Nat} {d : α} {k : Int}, (l.take j).any p = false → j < l.length → p (l.getD j d) = true → idxP p l k = k + j
  | [], j, d, k, _, hj, _ => by simp at hj
  | y :: l, 0, d, k, _, _, h => by rw [idxP, if_pos (by simpa using h)]; simp
  | y :: l, j + 1, d, k, hb, hj, h => by
    rw [List.take_succ_cons, List.any_cons, Bool.or_eq_false_iff] at hb
    rw [idxP, if_neg (by rw [hb.1]; simp), idxP_at hb.2 (by simpa using hj) (by simpa using h)]
    push_cast; omega
theorem idxP_any {α : Type} {p : α → Bool} : ∀ {l : List α} {k : Int}, 0 ≤ k → decide (0 ≤ idxP p l k) = l.any p
  | [], k, _ => rfl
  | y :: l, k, h => by
    rw [idxP, List.any_cons]
    cases hy : p y with
    | true => simp [h]
    | false => rw [if_neg (by simp), idxP_any (by omega)]; simp
theorem beqInt (a b : Int) : (a == b) = decide (a = b) := by rw [Bool.eq_iff_iff]; simp
def eqI (x y : Item) : Bool := decide (x = y)
theorem any_eqI (x : Item) (l : List Item) : l.any (eqI x) = decide (x ∈ l) := by
  rw [Bool.eq_iff_iff, List.any_eq_true]
  simp only [eqI, decide_eq_true_eq]
  exact ⟨fun ⟨y, h, e⟩ => e ▸ h, fun h => ⟨x, h, rfl⟩⟩
def IAny {α : Type} (p : α → Bool) (l : List α) (i : Int) : Prop := ∃ j : Nat, j ≤ l.length ∧ i = j ∧ (l.take j).any p = false


end Go.Proofs.Ythbmllekbbfobaa.Sx
