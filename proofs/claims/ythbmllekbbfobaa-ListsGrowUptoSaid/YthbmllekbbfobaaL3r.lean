import Derived.Test.YthbmllekbbfobaaProg
import Derived.Test.YthbmllekbbfobaaSxU
import Derived.IntWalk
import Derived.Test.YthbmllekbbfobaaL2
/-! lists, Put -/
namespace Go.Proofs.Ythbmllekbbfobaa.Sx
open Go
set_option linter.unusedVariables false
set_option linter.unusedSimpArgs false
set_option maxRecDepth 100000

def badI (x : Item) : Bool := decide (0 ≤ badAt x)
def numsI (x : Item) : List Int := [x.card, x.owner, x.id, x.number, x.amount]
def fieldsI (x : Item) : List FieldT := [⟨32, x.card⟩, ⟨32, x.owner⟩, ⟨32, x.id⟩, ⟨32, x.number⟩, ⟨32, x.amount⟩]
def formIs (xs : List Item) : List Int := xs.flatMap fun x => bytesF (fieldsI x)
def putDE (to : Int) (add off : List Item) : Int := if to < 1 ∨ 2147483648 ≤ to then 2 else if (add ++ off).any badI then 2 else if 64 < add.length ∨ 64 < off.length then 11 else 0
def putD (to : Int) (add off : List Item) : List Int := if putDE to add off = 0 then bytesF [⟨32, to⟩, ⟨8, add.length⟩, ⟨8, off.length⟩] ++ formIs (add ++ off) else []
def zI : Item := ⟨0, 0, 0, 0, 0⟩
theorem badI_iff {x : Item} : badI x = false ↔ ((0 ≤ x.card ∧ x.card ≤ 2147483648) ∧ (0 ≤ x.owner ∧ x.owner ≤ 2147483648) ∧ (0 ≤ x.id ∧ x.id ≤ 2147483648) ∧ (0 ≤ x.number ∧ x.number ≤ 2147483648) ∧ (0 ≤ x.amount ∧ x.amount ≤ 2147483648)) := by
  have hb : ∀ n : Int, badN n = false ↔ (0 ≤ n ∧ n ≤ 2147483648) := fun n => by simp [badN]
  simp only [badI, badAt, ← hb]
  repeat' split
  all_goals simp_all
theorem right32 {v : Int} (h : 0 ≤ v) (h' : v ≤ 2147483648) : rightF ⟨32, v⟩ = true := by
  simp only [rightF, Bool.and_eq_true, decide_eq_true_eq]
  exact ⟨⟨⟨by decide, by decide⟩, h⟩, by show v < 4294967296; omega⟩
theorem putB_right {xs : List Int} {f : FieldT} (h : rightF f = true) : putB xs [f] = xs ++ be (f.width.toNat / 8) f.value := by simp [putB, h, bytesF]
theorem putB5 {x : Item} (h : badI x = false) (xs : List Int) : putB (putB (putB (putB (putB xs [⟨32, x.card⟩]) [⟨32, x.owner⟩]) [⟨32, x.id⟩]) [⟨32, x.number⟩]) [⟨32, x.amount⟩] = xs ++ bytesF (fieldsI x) := by
  obtain ⟨h1, h2, h3, h4, h5⟩ := badI_iff.1 h
  rw [putB_right (right32 h1.1 h1.2), putB_right (right32 h2.1 h2.2), putB_right (right32 h3.1 h3.2), putB_right (right32 h4.1 h4.2), putB_right (right32 h5.1 h5.2)]
  simp [bytesF, fieldsI]
theorem putB_le (xs : List Int) (v : Int) : (putB xs [⟨32, v⟩]).length ≤ xs.length + 4 := by
  unfold putB
  split
  · simp [bytesF, be_length]
  · omega
theorem bytesI_length (x : Item) : (bytesF (fieldsI x)).length = 20 := by simp [bytesF, fieldsI, be_length]
theorem formIs_length : ∀ l : List Item, (formIs l).length = 20 * l.length
  | [] => rfl
  | x :: l => by
    have := formIs_length l
    simp only [formIs, List.flatMap_cons, List.length_append, bytesI_length, List.length_cons] at *
    omega
theorem formIs_snoc (l : List Item) (x : Item) : formIs (l ++ [x]) = formIs l ++ bytesF (fieldsI x) := by simp [formIs]
theorem any_getD {α : Type} {p : α → Bool} {l : List α} {d : α} {j : Nat} (hj : j < l.length) (h : p (l.getD j d) = true) : l.any p = true := by
  rw [List.any_eq_true]
  exact ⟨_, mem_getD hj, h⟩
theorem head_put {to : Int} {a b : Nat} (h : 1 ≤ to) (h' : to < 2147483648) (ha : a ≤ 64) (hb : b ≤ 64) : putB [] [⟨32, to⟩, ⟨8, a⟩, ⟨8, b⟩] = bytesF [⟨32, to⟩, ⟨8, a⟩, ⟨8, b⟩] := by
  unfold putB
  rw [if_pos]
  · rfl
  · have h8 : ∀ a : Nat, a ≤ 64 → rightF ⟨8, a⟩ = true := fun a ha => by
      simp only [rightF, Bool.and_eq_true, decide_eq_true_eq]
      exact ⟨⟨⟨by decide, by decide⟩, by omega⟩, by show (a : Int) < 256; omega⟩
    simp [right32 (v := to) (by omega) (by omega), h8 a ha, h8 b hb]
theorem head_length (a b c : Int) : (bytesF [⟨32, a⟩, ⟨8, b⟩, ⟨8, c⟩]).length = 6 := by simp [bytesF, be_length]
theorem no_bad {l : List Item} {m : Nat} (hm : m < l.length) (hb : l.any badI = false) : badI (l.getD m ⟨0, 0, 0, 0, 0⟩) = false := by
  rw [← Bool.not_eq_true]
  intro hc
  rw [any_getD hm hc] at hb
  cases hb
theorem badI_of {x : Item} (h : 0 ≤ badAt x) : badI x = true := decide_eq_true h
theorem badI_no {x : Item} (h : badAt x < 0) : badI x = false := decide_eq_false (by omega)
def IPb (l : List Item) (i : Int) : Prop := ∃ j : Nat, j ≤ l.length ∧ i = j ∧ (l.take j).any badI = false
def IPl (h : List Int) (l : List Item) (i : Int) (xs : List Int) (n : Int) : Prop := ∃ j : Nat, j ≤ l.length ∧ i = j ∧ xs = h ++ formIs (l.take j) ∧ n = 8 * xs.length


end Go.Proofs.Ythbmllekbbfobaa.Sx
