import Derived.Test.YtncdakkigkmfjaaProg
import Derived.Test.YtncdakkigkmfjaaSxU
import Derived.IntWalk
import Derived.Test.YtncdakkigkmfjaaB3
/-! fareboxlaw17, BatchOrder -/
namespace Go.Proofs.Ytncdakkigkmfjaa.Sx
open Go
set_option linter.unusedVariables false
set_option linter.unusedSimpArgs false
set_option maxRecDepth 100000

def ride17 (op seq : Int) : Journey := ⟨op, seq, 7, 2, 9, 1, 1, 4, 250, 3⟩
def IB1 (k i seq last : Int) (loose : List Journey) : Prop := 0 ≤ i ∧ i ≤ k ∧ k ≤ 59 ∧ last = seq ∧ (loose.length : Int) = i ∧ i ≤ seq ∧ seq ≤ 9 * i
def IB2 (k i : Int) (got : List Journey) (n : Int) (loose : List Journey) (open_ : List Batch) (all : List Journey) : Prop := n = i - 1 ∧ 1 ≤ i ∧ i ≤ 11 ∧ got ++ loose = all ∧ (all.length : Int) = k ∧ 0 ≤ k ∧ k ≤ 59 ∧ (got.length : Int) = min (8 * (i - 1)) k ∧ (open_.length : Int) ≤ i
theorem tmodB {a b : Int} (h : 0 < b) : -b < a.tmod b ∧ a.tmod b < b := by
  rcases Int.le_total 0 a with h0 | h0
  · rw [Int.tmod_eq_emod_of_nonneg h0]
    have := Int.emod_nonneg a (show b ≠ 0 by omega)
    have := Int.emod_lt_of_pos a h
    omega
  · obtain ⟨c, rfl⟩ : ∃ c, a = -c := ⟨-a, by omega⟩
    rw [Int.neg_tmod, Int.tmod_eq_emod_of_nonneg (show 0 ≤ c by omega)]
    have := Int.emod_nonneg c (show b ≠ 0 by omega)
    have := Int.emod_lt_of_pos c h
    omega
theorem pmB {a m : Int} (h : 0 < m) (h' : m ≤ 1000) : 0 ≤ (IntKind.i64.wrap (a.tmod m + m)).tmod m ∧ (IntKind.i64.wrap (a.tmod m + m)).tmod m < m := by
  have := tmodB (a := a) h
  rw [wrap64 (by omega) (by omega), Int.tmod_eq_emod_of_nonneg (by omega)]
  exact ⟨Int.emod_nonneg _ (by omega), Int.emod_lt_of_pos _ h⟩
theorem acc_ride {o last seq : Int} {loose : List Journey} (h : 1 ≤ o) (h' : o ≤ 4) (hl : last < seq) (hs : 1 ≤ seq) (hs' : seq ≤ 2147483647) :
    accE o last [ride17 o seq] = 0 ∧ accL o last [ride17 o seq] = seq ∧ accR o last loose [ride17 o seq] = loose ++ [ride17 o seq] := by
  have hg : goodJ (ride17 o seq) = true := (goodJ_iff _).2 (by simp only [ride17]; omega)
  have e : accE o last [ride17 o seq] = 0 := by
    simp only [accE]
    rw [if_neg (by rw [hg]; simp [ride17]), if_neg (by simp only [ride17]; omega)]
  refine ⟨e, by unfold accL; rw [if_pos e]; rfl, by unfold accR; rw [if_pos e]⟩
theorem ib1_more {k i seq last o d : Int} {loose : List Journey} (h : IB1 k i seq last loose) (ho : 1 ≤ o) (ho' : o ≤ 4) (hd : 1 ≤ d) (hd' : d ≤ 9) (hi : i < k) :
    0 ≤ i ∧ loose.length ≤ 59 ∧ accE o last [ride17 o (IntKind.i64.wrap (seq + d))] = 0 ∧ IB1 k (IntKind.i64.wrap (i + 1)) (IntKind.i64.wrap (seq + d)) (accL o last [ride17 o (IntKind.i64.wrap (seq + d))]) (accR o last loose [ride17 o (IntKind.i64.wrap (seq + d))]) ∧ (k - IntKind.i64.wrap (i + 1)).toNat < (k - i).toNat := by
  obtain ⟨h1, h2, h3, rfl, h5, h6, h7⟩ := h
  rw [wrap64 (n := i + 1) (by omega) (by omega), wrap64 (n := last + d) (by omega) (by omega)]
  obtain ⟨a1, a2, a3⟩ := acc_ride (loose := loose) (last := last) ho ho' (show last < last + d by omega) (by omega) (by omega)
  rw [a2, a3]
  refine ⟨h1, by omega, a1, ⟨by omega, by omega, h3, rfl, by simp; omega, by omega, by omega⟩, by omega⟩
theorem ib2_facts {k i n o : Int} {got loose all : List Journey} {open_ : List Batch} (h : IB2 k i got n loose open_ all) :
    got.length ≤ 59 ∧ loose.length ≤ 59 ∧ all.length ≤ 59 ∧ open_.length ≤ 11 ∧ 0 ≤ n ∧ n ≤ 10 ∧ canP n loose = decide ((got.length : Int) < all.length) ∧ (packL n loose).length ≤ 59 ∧
    (canP n loose = true → (packX o n loose).n = i ∧ (packX o n loose).op = o ∧ (packX o n loose).js.length ≤ 8 ∧ ((packX o n loose).js.length < 8 → (got.length : Int) + (packX o n loose).js.length = all.length) ∧
      (i ≤ 10 → IB2 k (i + 1) (got ++ (packX o n loose).js) (packN n loose) (packL n loose) (packO o n loose open_) all)) ∧ (canP n loose = false → got = all ∧ packL n loose = [] ∧ loose = []) ∧ (10 < i → got = all ∧ loose = []) ∧ (all.length : Int) = k ∧ 1 ≤ i ∧ i ≤ 11 := by
  obtain ⟨h1, h2, h3, rfl, h5, h6, h7, h8, h9⟩ := h
  rw [List.length_append] at h5
  have hc : canP n loose = decide ((got.length : Int) < ((got ++ loose).length : Nat)) := by
    rw [List.length_append]
    unfold canP
    rw [Bool.eq_iff_iff]
    simp only [Bool.and_eq_true, decide_eq_true_eq]
    constructor
    · rintro ⟨h, _⟩
      have := List.length_pos_iff.2 h
      omega
    · intro h
      exact ⟨by rintro rfl; simp at h, by omega⟩
  refine ⟨by omega, by omega, by rw [List.length_append]; omega, by omega, by omega, by omega, hc, ?_, fun h => ?_, fun h => ?_, fun h => ?_, by rw [List.length_append]; exact h5, h2, h3⟩
  · unfold packL
    split
    · rw [List.length_drop]; omega
    · omega
  · unfold packX packN packL packO
    rw [if_pos h, if_pos h, if_pos h, if_pos h]
    refine ⟨by show n + 1 = i; omega, rfl, by rw [List.length_take]; omega, fun h => ?_, fun h10 => ⟨by omega, by omega, by omega, ?_, ?_, h6, h7, ?_, ?_⟩⟩
    · rw [List.length_take] at *
      rw [List.length_append]
      omega
    · rw [List.append_assoc, List.take_append_drop]
    · rw [List.length_append]; exact h5
    · rw [List.length_append, List.length_take]; omega
    · rw [List.length_append]; simp only [List.length_cons, List.length_nil]; omega
  · have : loose = [] := by
      rw [hc, decide_eq_false_iff_not, List.length_append] at h
      exact List.eq_nil_of_length_eq_zero (by omega)
    subst this
    exact ⟨by simp, by unfold packL; rw [if_neg (by rw [h]; decide)], rfl⟩
  · have : loose = [] := List.eq_nil_of_length_eq_zero (by omega)
    subst this
    exact ⟨by simp, rfl⟩
theorem awk17 : accE 1 0 [ride17 1 1, ride17 1 2] = 0 ∧ accR 1 0 [] [ride17 1 1, ride17 1 2] = [ride17 1 1, ride17 1 2] ∧ accL 1 0 [ride17 1 1, ride17 1 2] = 2 ∧ packX 1 0 [ride17 1 1, ride17 1 2] = ⟨1, 1, [ride17 1 1, ride17 1 2]⟩ ∧
    packL 0 [ride17 1 1, ride17 1 2] = [] ∧ packN 0 [ride17 1 1, ride17 1 2] = 1 ∧ packO 1 0 [ride17 1 1, ride17 1 2] [] = [⟨1, 1, [ride17 1 1, ride17 1 2]⟩] ∧ canP 0 [ride17 1 1, ride17 1 2] = true := ⟨rfl, rfl, rfl, rfl, rfl, rfl, rfl, rfl⟩
theorem awk17b : canP 1 [] = false ∧ packL 1 [] = [] ∧ packN 1 [] = 1 ∧ (∀ X, packO 1 1 [] X = X) ∧ accE 1 2 [ride17 1 2] = 31 ∧ accL 1 2 [ride17 1 2] = 2 ∧ accR 1 2 [] [ride17 1 2] = [] ∧ findB 2 [⟨1, 1, [ride17 1 1, ride17 1 2]⟩] 0 = -1 ∧
    (formBk 1 2 1 [⟨1, 1, [ride17 1 1, ride17 1 2]⟩] []).length = 61 := ⟨rfl, rfl, rfl, fun _ => rfl, rfl, rfl, rfl, rfl, rfl⟩
theorem dB (x : Int) : 1 ≤ IntKind.i64.wrap (1 + (IntKind.i64.wrap (x.tmod 9 + 9)).tmod 9) ∧ IntKind.i64.wrap (1 + (IntKind.i64.wrap (x.tmod 9 + 9)).tmod 9) ≤ 9 := by
  have := pmB (a := x) (m := 9) (by decide) (by decide)
  rw [wrap64 (by omega) (by omega)]
  omega
theorem ib2_zero {k i seq last : Int} {loose : List Journey} (h : IB1 k i seq last loose) (hi : k ≤ i) : IB2 k 1 [] 0 loose [] loose := by
  obtain ⟨h1, h2, h3, h4, h5, h6, h7⟩ := h
  exact ⟨by omega, by omega, by omega, rfl, by omega, by omega, h3, by simp; omega, by simp⟩


end Go.Proofs.Ytncdakkigkmfjaa.Sx
