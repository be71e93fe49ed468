import Derived.Test.YtncdakkigkmfjaaProg
import Derived.Test.YtncdakkigkmfjaaSxU
import Derived.IntWalk
import Derived.Test.YtncdakkigkmfjaaF5
/-! fare, FareBatches' functions -/
namespace Go.Proofs.Ytncdakkigkmfjaa.Sx
open Go
set_option linter.unusedVariables false
set_option linter.unusedSimpArgs false
set_option maxRecDepth 100000


def lastAt (js : List Journey) (j : Nat) : Int := if j = 0 then 0 else (js.getD (j - 1) ⟨0, 0, 0, 0, 0, 0, 0, 0, 0, 0⟩).seq
def IBa (op : Int) (js : List Journey) (i : Int) : Prop := ∃ j : Nat, j ≤ js.length ∧ i = j ∧ good (js.take j) = true ∧ scanJ op (lastAt js j) (js.drop j) j = scanJ op 0 js 0
theorem rightB_false {x : Batch} (h : ¬ ((1 ≤ x.op ∧ x.op ≤ 4) ∧ (1 ≤ x.n ∧ x.n ≤ 2147483647) ∧ (1 ≤ x.js.length ∧ x.js.length ≤ 8) ∧ good x.js = true ∧ (scanJ x.op 0 x.js 0).1 < 0)) : rightB x = false := by
  rw [← Bool.not_eq_true, rightB_iff]; exact h
abbrev gJ (js : List Journey) (i : Nat) : Journey := js.getD i ⟨0, 0, 0, 0, 0, 0, 0, 0, 0, 0⟩
theorem iba_more {op : Int} {js : List Journey} {i : Int} (h : IBa op js i) (hL : js.length ≤ 1099511627776) (hlt : i < js.length) :
    (goodJ (gJ js i.toNat) = false → good js = false) ∧ ((gJ js i.toNat).op ≠ op → 0 ≤ (scanJ op 0 js 0).1) ∧
    (0 < i → (gJ js i.toNat).seq ≤ (gJ js (IntKind.i64.wrap (i - 1)).toNat).seq → 0 ≤ (scanJ op 0 js 0).1) ∧
    (goodJ (gJ js i.toNat) = true → (gJ js i.toNat).op = op → ((0 < i ∧ (gJ js (IntKind.i64.wrap (i - 1)).toNat).seq < (gJ js i.toNat).seq) ∨ i ≤ 0) →
      IBa op js (IntKind.i64.wrap (i + 1)) ∧ js.length - (IntKind.i64.wrap (i + 1)).toNat < js.length - i.toNat) := by
  obtain ⟨j, hj, rfl, hg, hs⟩ := h
  have hlt' : j < js.length := by omega
  have e1 : IntKind.i64.wrap ((j : Int) + 1) = ((j + 1 : Nat) : Int) := by rw [wrap64] <;> omega
  have e2 : 0 < j → (IntKind.i64.wrap ((j : Int) - 1)).toNat = j - 1 := fun h => by rw [wrap64 (by omega) (by omega)]; omega
  have hl : 0 < j → lastAt js j = (gJ js (j - 1)).seq := fun h => if_neg (by omega)
  have hl0 : j = 0 → lastAt js j = 0 := fun h => if_pos h
  rw [drop_getD (d := (⟨0, 0, 0, 0, 0, 0, 0, 0, 0, 0⟩ : Journey)) hlt'] at hs
  simp only [scanJ] at hs
  simp only [Int.toNat_natCast]
  rw [e1]
  refine ⟨fun h => not_good hlt' h, fun h => ?_, fun h0 h => ?_, fun h1 h2 h3 => ⟨⟨j + 1, by omega, rfl, ?_, ?_⟩, by omega⟩⟩
  · rw [if_pos (.inl h)] at hs
    rw [← hs]; exact Int.natCast_nonneg _
  · rw [e2 (by omega)] at h
    rw [if_pos (.inr (by rw [hl (by omega)]; exact h))] at hs
    rw [← hs]; exact Int.natCast_nonneg _
  · rw [take_getD (d := (⟨0, 0, 0, 0, 0, 0, 0, 0, 0, 0⟩ : Journey)) hlt', good_snoc, hg]
    exact h1
  · have hpos := ((goodJ_iff _).1 h1).2.2.1.1
    rw [if_neg] at hs
    · exact hs
    · rintro (h | h)
      · exact h h2
      · rcases h3 with ⟨h0, h3⟩ | h3
        · rw [e2 (by omega)] at h3
          rw [hl (by omega)] at h
          exact absurd h (Int.not_le.2 h3)
        · rw [hl0 (by omega)] at h
          exact absurd h (by unfold gJ at hpos; omega)
theorem iba_end {op : Int} {js : List Journey} {i : Int} (h : IBa op js i) (hlt : js.length ≤ i) : good js = true ∧ (scanJ op 0 js 0).1 < 0 := by
  obtain ⟨j, hj, rfl, hg, hs⟩ := h
  obtain rfl : j = js.length := by omega
  rw [List.take_length] at hg
  rw [List.drop_length] at hs
  refine ⟨hg, ?_⟩
  rw [← hs]
  exact (by decide : (-1 : Int) < 0)
theorem be_one {n : Int} (h : 0 ≤ n) (h' : n < 256) : be 1 n = [IntKind.u8.wrap n] := by
  rw [wrapU8 h h']
  simp only [be, List.nil_append]
  rw [Int.emod_eq_of_lt h h']
theorem rd3 {b : List Int} (h : 6 ≤ b.length) : headL b = [b.getD 0 0, num ((b.drop 1).take 4), b.getD 5 0] := by
  have : takeE b.length 0 0 [8, 32, 8] = 0 := by
    unfold takeE
    rw [if_neg (by simp), if_neg (by decide), if_neg (by rw [show ([8, 32, 8] : List Int).sum = 48 from rfl]; omega)]
  have e : headL b = rd b [8, 32, 8] := by unfold headL takeN; rw [if_pos this]; rfl
  rw [e, ← one_byte (l := b) (n := 5) (by omega), ← one_byte (l := b) (n := 0) (by omega)]
  simp [rd, List.drop_drop]
/-- Whether what cannot be is left out or not. -/
theorem rightB_parse (op n : Int) (b : List Int) (h : b.length % 19 = 0) : rightB ⟨op, n, getJ b⟩ = rightB ⟨op, n, parseJs (b.length / 19) b⟩ := by
  by_cases hg : good (parseJs (b.length / 19) b) = true
  · have e : getJE b = 0 := by unfold getJE; rw [if_neg (by omega), if_pos hg]
    have : getJ b = parseJs (b.length / 19) b := by unfold getJ; rw [if_pos e]
    rw [this]
  · have e : getJE b = 12 := by unfold getJE; rw [if_neg (by omega), if_neg hg]
    have : getJ b = [] := by unfold getJ; rw [if_neg (by rw [e]; decide)]
    rw [this, rightB_false (x := ⟨op, n, []⟩) (by simp), rightB_false (x := ⟨op, n, parseJs (b.length / 19) b⟩) (fun h => hg h.2.2.2.1)]
theorem rB_eq {b : List Int} {j : Nat} (h : 6 ≤ b.length) (hj : b.length = 6 + 19 * j) (h0 : 0 ≤ b.getD 0 0 ∧ b.getD 0 0 < 256) : rightB ⟨IntKind.i64.wrap (b.getD 0 0), num ((b.drop 1).take (5 - 1)), parseJs j (b.drop 6)⟩ = rightB (batchOf b) := by
  have e : (b.drop 6).length = 19 * j := by rw [List.length_drop]; omega
  have e2 : (b.drop 6).length / 19 = j := by rw [e]; omega
  unfold batchOf
  rw [rd3 h, wrap64 (by omega) (by omega)]
  show _ = rightB ⟨b.getD 0 0, num ((b.drop 1).take 4), getJ (b.drop 6)⟩
  rw [rightB_parse _ _ _ (by omega), e2]
theorem rB_val {b : List Int} {j : Nat} (h : 6 ≤ b.length) (hj : b.length = 6 + 19 * j) (h0 : 0 ≤ b.getD 0 0 ∧ b.getD 0 0 < 256) (hg : good (parseJs j (b.drop 6)) = true) : batchOf b = ⟨IntKind.i64.wrap (b.getD 0 0), num ((b.drop 1).take (5 - 1)), parseJs j (b.drop 6)⟩ := by
  have e : (b.drop 6).length = 19 * j := by rw [List.length_drop]; omega
  have e2 : (b.drop 6).length / 19 = j := by rw [e]; omega
  have e3 : getJE (b.drop 6) = 0 := by unfold getJE; rw [if_neg (by omega), e2, if_pos hg]
  have e4 : getJ (b.drop 6) = parseJs j (b.drop 6) := by unfold getJ; rw [if_pos e3, e2]
  unfold batchOf
  rw [rd3 h, wrap64 (by omega) (by omega), e4]
  rfl
def IBf (hd : List Int) (js : List Journey) (i : Int) (out : List Int) : Prop := ∃ j : Nat, j ≤ js.length ∧ i = j ∧ out = hd ++ form (js.take j)
def IGb (b : List Int) (i : Int) (js : List Journey) : Prop := ∃ j : Nat, j ≤ (b.length - 6) / 19 ∧ i = ((6 + 19 * j : Nat) : Int) ∧ js = parseJs j (b.drop 6)


end Go.Proofs.Ytncdakkigkmfjaa.Sx
