import Derived.Test.YtncdakkigkmfjaaProg
import Derived.Test.YtncdakkigkmfjaaSxU
import Derived.IntWalk
import Derived.Test.YtncdakkigkmfjaaK1s1
/-! keys -/
namespace Go.Proofs.Ytncdakkigkmfjaa.Sx
open Go
set_option linter.unusedVariables false
set_option linter.unusedSimpArgs false
set_option maxRecDepth 100000


def parent (k : Key) : Key × Int := if level k < 0 then (zkey, 2) else if level k = 0 then (zkey, 21) else (atK k (level k - 1) 0, 0)
def anc : Nat → Key → Key → Bool
  | 0, x, a => decide (x = a)
  | n + 1, x, a => decide (x = a) || anc n (atK x n 0) a
def fromK (k : Key) (above : List Key) : Bool := right k && above.all fun a => anc (level k).toNat k a
theorem level_right {k : Key} : (0 ≤ level k) ↔ right k = true := by
  unfold level
  cases h : right k <;> simp
  split <;> (try split) <;> (try split) <;> omega
theorem level_up {x : Key} {n : Nat} (h : level x = n + 1) : level (atK x n 0) = n := by
  have hr : right x = true := level_right.1 (by omega)
  have hn : n ≤ 2 := by have := level_range x; omega
  obtain ⟨a, b, c, d⟩ := x
  have : n = 0 ∨ n = 1 ∨ n = 2 := by omega
  rcases this with rfl | rfl | rfl
  all_goals
    simp [level, right, atK] at *
    (repeat' split at h) <;> simp_all <;> omega
theorem anc_self (n : Nat) (x : Key) : anc n x x = true := by cases n <;> simp [anc]
theorem parent_up {x : Key} {n : Nat} (h : level x = n + 1) : parent x = (atK x n 0, 0) := by
  unfold parent; rw [if_neg (by omega), if_neg (by omega), show level x - 1 = n by omega]
theorem parent_top {x : Key} (h : level x = 0) : (parent x).2 = 21 := by
  unfold parent; rw [if_neg (by omega), if_pos (by omega)]
theorem from_false {k : Key} {above : List Key} {j : Nat} (hj : j < above.length) (h : anc (level k).toNat k (above.getD j ⟨0, 0, 0, 0⟩) = false) : fromK k above = false := by
  unfold fromK
  rw [Bool.and_eq_false_iff]
  right
  rw [List.all_eq_false]
  refine ⟨above[j], List.getElem_mem hj, ?_⟩
  rw [show above.getD j ⟨0, 0, 0, 0⟩ = above[j] by simp [List.getD, hj]] at h
  simp [h]
theorem all_step {p : Key → Bool} {l : List Key} {j : Nat} (hj : j < l.length) (h : p (l.getD j ⟨0, 0, 0, 0⟩) = true) : (l.drop j).all p = (l.drop (j + 1)).all p := by
  rw [drop_getD (d := (⟨0, 0, 0, 0⟩ : Key)) hj, List.all_cons, h, Bool.true_and]
def roll (k : Key) : Key × Int := if right k = false then (zkey, 2) else if k.ver = 255 then (zkey, 29) else (⟨k.op, k.ty, k.card, k.ver + 1⟩, 0)
def prodKey (p : Product) : Key := ⟨p.owner, p.kind, p.card, p.ver⟩
def product (p : Product) : Key × Int := if level (prodKey p) ≠ 3 then (zkey, 2) else (prodKey p, 0)
def batchK (op ver : Int) : Key × Int := if level ⟨op, 0, 0, ver⟩ ≠ 1 then (zkey, 2) else (⟨op, 0, 0, ver⟩, 0)
def setAll (x : List Int) (n : Int) : List Int → List Int
  | [] => x
  | v :: p => setAll (x.set n.toNat v) (n + 1) p
theorem setAll_snoc : ∀ {p : List Int} {x : List Int} {n v : Int}, setAll x n (p ++ [v]) = (setAll x n p).set (n + p.length).toNat v
  | [], x, n, v => by simp [setAll]
  | a :: p, x, n, v => by
    simp only [List.cons_append, setAll]
    rw [setAll_snoc]
    congr 2
    simp; omega
theorem setAll_length : ∀ {p : List Int} {x : List Int} {n : Int}, (setAll x n p).length = x.length
  | [], x, n => rfl
  | a :: p, x, n => by simp only [setAll]; rw [setAll_length]; simp
def rowKey (x : List Int) (ver : Int) : Key := ⟨x.getD 0 0, x.getD 1 0, x.getD 2 0, ver⟩
def refDerive (k : Key) (p : List Int) : Key × Int :=
  if level k < 0 then (zkey, 2) else if level k + p.length > 3 then (zkey, 15) else
    if level (rowKey (setAll [k.op, k.ty, k.card] (level k) p) k.ver) ≠ level k + p.length then (zkey, 2) else (rowKey (setAll [k.op, k.ty, k.card] (level k) p) k.ver, 0)
def refFrom (k a : Key) : Bool := !(decide (level a < 0) || decide (level k < level a) || decide (k.ver ≠ a.ver)) && (decide (level a < 1) || decide (k.op = a.op)) && (decide (level a < 2) || decide (k.ty = a.ty)) && (decide (level a < 3) || decide (k.card = a.card))


end Go.Proofs.Ytncdakkigkmfjaa.Sx
