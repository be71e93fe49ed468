import Derived.Test.YtncdakkigkmfjaaProg
import Derived.Test.YtncdakkigkmfjaaSxU
import Derived.IntWalk
import Derived.Test.YtncdakkigkmfjaaB2
/-! batch, Form -/
namespace Go.Proofs.Ytncdakkigkmfjaa.Sx
open Go
set_option linter.unusedVariables false
set_option linter.unusedSimpArgs false
set_option maxRecDepth 100000

/-- Where the first batch of number n stands. -/
def findB (n : Int) : List Batch → Int → Int
  | [], _ => -1
  | x :: l, i => if x.n = n then i else findB n l (i + 1)
def IFind (n : Int) (xs : List Batch) (i : Int) : Prop := ∃ j : Nat, j ≤ xs.length ∧ i = j ∧ findB n (xs.drop j) j = findB n xs 0
theorem drop_getB {l : List Batch} {j : Nat} (h : j < l.length) : l.drop j = l.getD j ⟨0, 0, []⟩ :: l.drop (j + 1) := by
  rw [List.drop_eq_getElem_cons h]
  simp [List.getD, h]
theorem ifind_more {n : Int} {xs : List Batch} {i : Int} (h : IFind n xs i) (hL : xs.length ≤ 1099511627776) (hi : i < xs.length) :
    0 ≤ i ∧ ((xs.getD i.toNat ⟨0, 0, []⟩).n = n → i = findB n xs 0) ∧ ((xs.getD i.toNat ⟨0, 0, []⟩).n ≠ n → IFind n xs (IntKind.i64.wrap (i + 1)) ∧ xs.length - (IntKind.i64.wrap (i + 1)).toNat < xs.length - i.toNat) := by
  obtain ⟨j, hj, rfl, h1⟩ := h
  simp only [Int.toNat_natCast]
  rw [drop_getB (by omega), findB] at h1
  refine ⟨by omega, fun e => ?_, fun e => ?_⟩
  · rw [if_pos e] at h1; exact h1
  · rw [if_neg e] at h1
    rw [wrap64 (by omega) (by omega)]
    exact ⟨⟨j + 1, by omega, rfl, h1⟩, by omega⟩
theorem ifind_end {n : Int} {xs : List Batch} {i : Int} (h : IFind n xs i) (hi : xs.length ≤ i) : -1 = findB n xs 0 := by
  obtain ⟨j, hj, rfl, h1⟩ := h
  obtain rfl : j = xs.length := by omega
  rw [List.drop_length] at h1
  exact h1
def headBk (op last n : Int) (open_ : List Batch) (loose : List Journey) : List Int := putB [] [⟨8, op⟩, ⟨32, last⟩, ⟨32, n⟩, ⟨32, (open_.length : Int)⟩, ⟨32, (loose.length : Int)⟩]
def formBk (op last n : Int) (open_ : List Batch) (loose : List Journey) : List Int := headBk op last n open_ loose ++ open_.flatMap putBB ++ putJ loose
def IForm (hd : List Int) (xs : List Batch) (i : Int) (out : List Int) : Prop := ∃ j : Nat, j ≤ xs.length ∧ i = j ∧ out = hd ++ (xs.take j).flatMap putBB
theorem putB5_length (a b c d e : FieldT) : (putB [] [a, b, c, d, e]).length ≤ 20 := by
  unfold putB
  split
  · rename_i h
    have := bytesF_len _ h
    simpa using this
  · simp
theorem flatB_length {xs : List Batch} {c : Nat} (h : ∀ x ∈ xs, x.js.length ≤ c) : (xs.flatMap putBB).length ≤ xs.length * (6 + 19 * c) := by
  induction xs with
  | nil => simp
  | cons x xs ih =>
    have h1 := ih fun y hy => h y (by simp [hy])
    have h2 := h x (by simp)
    have h3 := putBB_length x
    have : 19 * x.js.length ≤ 19 * c := Nat.mul_le_mul_left _ h2
    simp only [List.flatMap_cons, List.length_append, List.length_cons]
    rw [Nat.add_mul, Nat.one_mul]
    omega
theorem flat_take_length {xs : List Batch} {c j : Nat} (h : ∀ x ∈ xs, x.js.length ≤ c) : ((xs.take j).flatMap putBB).length ≤ xs.length * (6 + 19 * c) := by
  refine Nat.le_trans (flatB_length fun x hx => h x (List.mem_of_mem_take hx)) (Nat.mul_le_mul_right _ ?_)
  rw [List.length_take]
  exact Nat.min_le_right _ _
theorem take_getB {l : List Batch} {j : Nat} (h : j < l.length) : l.take (j + 1) = l.take j ++ [l.getD j ⟨0, 0, []⟩] := take_getD h
theorem iform_more {hd : List Int} {xs : List Batch} {i : Int} {out : List Int} (h : IForm hd xs i out) (hL : xs.length ≤ 1048576) (hi : i < xs.length) :
    xs.getD i.toNat ⟨0, 0, []⟩ ∈ xs ∧ 0 ≤ i ∧ IForm hd xs (IntKind.i64.wrap (i + 1)) (out ++ putBB (xs.getD i.toNat ⟨0, 0, []⟩)) ∧ xs.length - (IntKind.i64.wrap (i + 1)).toNat < xs.length - i.toNat := by
  obtain ⟨j, hj, rfl, rfl⟩ := h
  simp only [Int.toNat_natCast]
  rw [wrap64 (by omega) (by omega)]
  refine ⟨mem_getD (by omega), by omega, ⟨j + 1, by omega, rfl, ?_⟩, by omega⟩
  rw [take_getB (by omega), List.flatMap_append, List.append_assoc]
  simp
theorem iform_len {a b c d e : FieldT} {xs : List Batch} {i : Int} {out : List Int} (h : IForm (putB [] [a, b, c, d, e]) xs i out) (hJ : ∀ x ∈ xs, x.js.length ≤ 1048576) (hL : xs.length ≤ 1048576) : out.length ≤ 20890727219220 := by
  obtain ⟨j, hj, rfl, rfl⟩ := h
  have h1 := putB5_length a b c d e
  have h2 := flat_take_length (j := j) hJ
  rw [List.length_append]
  omega
theorem iform_end {hd : List Int} {xs : List Batch} {i : Int} {out : List Int} (h : IForm hd xs i out) (hi : xs.length ≤ i) : out = hd ++ xs.flatMap putBB := by
  obtain ⟨j, hj, rfl, rfl⟩ := h
  obtain rfl : j = xs.length := by omega
  rw [List.take_length]


end Go.Proofs.Ytncdakkigkmfjaa.Sx
