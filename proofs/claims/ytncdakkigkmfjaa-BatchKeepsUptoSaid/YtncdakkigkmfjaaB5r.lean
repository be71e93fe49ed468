import Derived.Test.YtncdakkigkmfjaaProg
import Derived.Test.YtncdakkigkmfjaaSxU
import Derived.IntWalk
import Derived.Test.YtncdakkigkmfjaaB4
/-! batch, Ack and Open -/
namespace Go.Proofs.Ytncdakkigkmfjaa.Sx
open Go
set_option linter.unusedVariables false
set_option linter.unusedSimpArgs false
set_option maxRecDepth 100000

def ackE (n : Int) (xs : List Batch) : Int := if findB n xs 0 < 0 then 21 else 0
def delB (n : Int) (xs : List Batch) : List Batch := if findB n xs 0 < 0 then xs else xs.take (findB n xs 0).toNat ++ xs.drop ((findB n xs 0).toNat + 1)
theorem findB_cases (n : Int) : ∀ (xs : List Batch) (i : Int), findB n xs i = -1 ∧ (∀ x ∈ xs, x.n ≠ n) ∨ ∃ p : Nat, p < xs.length ∧ findB n xs i = i + p ∧ (xs.getD p ⟨0, 0, []⟩).n = n
  | [], i => .inl ⟨rfl, fun x hx => by simp at hx⟩
  | x :: l, i => by
    simp only [findB]
    by_cases e : x.n = n
    · rw [if_pos e]; exact .inr ⟨0, by simp, by simp, by simpa using e⟩
    · rw [if_neg e]
      rcases findB_cases n l (i + 1) with ⟨h1, h2⟩ | ⟨p, h1, h2, h3⟩
      · refine .inl ⟨h1, fun y hy => ?_⟩
        rcases List.mem_cons.1 hy with rfl | hy
        · exact e
        · exact h2 y hy
      · exact .inr ⟨p + 1, by simpa using h1, by rw [h2]; push_cast; omega, by simpa using h3⟩
def IOpen (xs : List Batch) (i : Int) (ys : List Batch) : Prop := ∃ j : Nat, j ≤ xs.length ∧ i = j ∧ ys = xs.take j
theorem iopen_more {xs ys : List Batch} {i : Int} (h : IOpen xs i ys) (hL : xs.length ≤ 1048576) (hi : i < xs.length) :
    0 ≤ i ∧ xs.getD i.toNat ⟨0, 0, []⟩ ∈ xs ∧ ys.length ≤ 1048576 ∧ IOpen xs (IntKind.i64.wrap (i + 1)) (ys ++ [xs.getD i.toNat ⟨0, 0, []⟩]) ∧ xs.length - (IntKind.i64.wrap (i + 1)).toNat < xs.length - i.toNat := by
  obtain ⟨j, hj, rfl, rfl⟩ := h
  simp only [Int.toNat_natCast]
  rw [wrap64 (by omega) (by omega)]
  exact ⟨by omega, mem_getD (by omega), by rw [List.length_take]; omega, ⟨j + 1, by omega, rfl, (take_getB (by omega)).symm⟩, by omega⟩
theorem iopen_end {xs ys : List Batch} {i : Int} (h : IOpen xs i ys) (hi : xs.length ≤ i) : ys = xs := by
  obtain ⟨j, hj, rfl, rfl⟩ := h
  rw [List.take_of_length_le (by omega)]
theorem del_row {α : Type} (z : α) {xs : List α} {p q : Nat} (h1 : p < q) (h2 : q ≤ xs.length) :
    splice (splice xs p (xs.drop q)) (p + (xs.length - q)) (List.replicate (xs.length - (p + (xs.length - q))) z) = xs.take p ++ xs.drop q ++ List.replicate (q - p) z := by
  have l1 : (xs.take p ++ xs.drop q).length = p + (xs.length - q) := by simp; omega
  unfold splice
  rw [List.take_left' l1, show xs.length - (p + (xs.length - q)) = q - p by omega]
  have l2 : (xs.take p ++ xs.drop q ++ xs.drop (p + (xs.drop q).length)).length ≤ p + (xs.length - q) + (List.replicate (q - p) z).length := by simp; omega
  rw [List.drop_of_length_le l2, List.append_nil]
theorem del_len {xs : List Batch} {i j : Int} (h : 0 ≤ i ∧ i < j ∧ j ≤ xs.length ∧ xs.length ≤ 1099511627776) : i.toNat - 0 + (List.take (xs.length - j.toNat) (List.drop j.toNat xs)).length = i.toNat + (xs.length - j.toNat) := by
  rw [List.length_take, List.length_drop]; omega
theorem del_res {xs : List Batch} {i j : Int} (z : Batch) (h : 0 ≤ i ∧ i < j ∧ j ≤ xs.length ∧ xs.length ≤ 1099511627776) :
    splice (splice xs (0 + (i.toNat - 0)) (List.take (xs.length - j.toNat) (List.drop j.toNat xs))) (0 + ((i.toNat + (xs.length - j.toNat) : Nat) : Int).toNat) (List.replicate ((xs.length : Int).toNat - ((i.toNat + (xs.length - j.toNat) : Nat) : Int).toNat) z) =
      xs.take i.toNat ++ xs.drop j.toNat ++ List.replicate (j.toNat - i.toNat) z := by
  have e1 : List.take (xs.length - j.toNat) (List.drop j.toNat xs) = xs.drop j.toNat := List.take_of_length_le (by simp)
  rw [e1, Nat.zero_add, Nat.sub_zero, Nat.zero_add, Int.toNat_natCast, Int.toNat_natCast]
  exact del_row z (by omega) (by omega)
theorem ack_at {n : Int} {xs : List Batch} (h : 0 ≤ findB n xs 0) : ∃ p : Nat, p < xs.length ∧ findB n xs 0 = p := by
  rcases findB_cases n xs 0 with ⟨h1, _⟩ | ⟨p, h1, h2, _⟩
  · omega
  · exact ⟨p, h1, by rw [h2]; omega⟩
theorem ack_no {n : Int} {xs : List Batch} (h : findB n xs 0 < 0) : xs = delB n xs ∧ 21 = ackE n xs := by
  unfold delB ackE; rw [if_pos h, if_pos h]; exact ⟨rfl, rfl⟩
theorem ack_yes {n : Int} {xs : List Batch} (h : 0 ≤ findB n xs 0) (hl : xs.length ≤ 1048576) :
    List.take (xs.length - ((IntKind.i64.wrap (findB n xs 0 + 1)).toNat - (findB n xs 0).toNat)) (List.take (findB n xs 0).toNat xs ++ List.drop (IntKind.i64.wrap (findB n xs 0 + 1)).toNat xs ++ List.replicate ((IntKind.i64.wrap (findB n xs 0 + 1)).toNat - (findB n xs 0).toNat) (⟨0, 0, []⟩ : Batch)) = delB n xs ∧ 0 = ackE n xs := by
  unfold delB ackE
  obtain ⟨p, h1, h2⟩ := ack_at h
  rw [if_neg (by omega), if_neg (by omega), h2, wrap64 (by omega) (by omega), show ((p : Int) + 1).toNat = p + 1 by omega, Int.toNat_natCast]
  refine ⟨List.take_left' ?_, rfl⟩
  simp; omega


end Go.Proofs.Ytncdakkigkmfjaa.Sx
