import Derived.Test.YthbmllekbbfobaaProg
import Derived.Test.YthbmllekbbfobaaSxU
import Derived.IntWalk
import Derived.Test.YthbmllekbbfobaaL5
/-! lists, apply -/
namespace Go.Proofs.Ythbmllekbbfobaa.Sx
open Go
set_option linter.unusedVariables false
set_option linter.unusedSimpArgs false
set_option maxRecDepth 100000

def offI (off L : List Item) : List Item := L.filter fun x => !decide (x ∈ off)
def addI : List Item → List Item → List Item
  | l, [] => l
  | l, x :: r => addI (if x ∈ l then l else l ++ [x]) r
def nextI (L add off : List Item) : List Item := addI (offI off L) add
def applyE (act : Bool) (v : Int) (L : List Item) (to : Int) (add off : List Item) : Int :=
  if to ≤ v then 31 else if to ≠ v + 1 then 28 else if (add ++ off).all (rightI act) = false then 2 else if 64 < (nextI L add off).length then 20 else 0
def applyV (act : Bool) (v : Int) (L : List Item) (to : Int) (add off : List Item) : Int := if applyE act v L to add off = 0 then to else v
def applyL (act : Bool) (v : Int) (L : List Item) (to : Int) (add off : List Item) : List Item := if applyE act v L to add off = 0 then nextI L add off else L
theorem addI_snoc : ∀ (r l : List Item) (x : Item), addI l (r ++ [x]) = if x ∈ addI l r then addI l r else addI l r ++ [x]
  | [], l, x => rfl
  | y :: r, l, x => by simp only [List.cons_append, addI]; exact addI_snoc r _ x
theorem offI_snoc (off l : List Item) (x : Item) : offI off (l ++ [x]) = if x ∈ off then offI off l else offI off l ++ [x] := by
  simp only [offI, List.filter_append]
  by_cases h : x ∈ off <;> simp [h]
theorem addI_len : ∀ (r l : List Item), (addI l r).length ≤ l.length + r.length
  | [], l => by simp [addI]
  | x :: r, l => by
    rw [addI]
    by_cases h : x ∈ l
    · rw [if_pos h]; have := addI_len r l; simp only [List.length_cons]; omega
    · rw [if_neg h]; have := addI_len r (l ++ [x]); simp only [List.length_append, List.length_cons, List.length_nil] at *; omega
theorem offI_len (off l : List Item) : (offI off l).length ≤ l.length := List.length_filter_le _ _
def IAll {α : Type} (p : α → Bool) (l : List α) (i : Int) : Prop := ∃ j : Nat, j ≤ l.length ∧ i = j ∧ (l.take j).all p = true
theorem all_snoc {α : Type} {p : α → Bool} {l : List α} {x : α} : (l ++ [x]).all p = (l.all p && p x) := by simp
theorem not_all {α : Type} {p : α → Bool} {l : List α} {d : α} {j : Nat} (hj : j < l.length) (h : p (l.getD j d) = false) : l.all p = false := by
  rw [← Bool.not_eq_true]
  intro hc
  rw [all_getD hc hj] at h
  cases h
def IOff (off L : List Item) (i : Int) (n : List Item) : Prop := ∃ j : Nat, j ≤ L.length ∧ i = j ∧ n = offI off (L.take j)
def IAdd (b add : List Item) (i : Int) (n : List Item) : Prop := ∃ j : Nat, j ≤ add.length ∧ i = j ∧ n = addI b (add.take j)
def ISameI (a b : List Item) (i : Int) : Prop := ∃ j : Nat, j ≤ a.length ∧ i = j ∧ a.take j = b.take j
theorem rightI_t (x : Item) : rightI true x = actI x := rfl
theorem rightI_f (x : Item) : rightI false x = hotI x := rfl


end Go.Proofs.Ythbmllekbbfobaa.Sx
