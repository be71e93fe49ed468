import Derived.Test.YtncdakkigkmfjaaProg
import Derived.Test.YtncdakkigkmfjaaSxU
import Derived.IntWalk
import Derived.Test.YtncdakkigkmfjaaKb
/-! bits -/
namespace Go.Proofs.Ytncdakkigkmfjaa.Sx
open Go
set_option linter.unusedVariables false
set_option linter.unusedSimpArgs false
set_option maxRecDepth 100000

/-- n in k bytes, the greatest first. -/
def be : Nat → Int → List Int
  | 0, _ => []
  | k + 1, n => be k (n / 256) ++ [n % 256]
theorem be_length : ∀ (k : Nat) (n : Int), (be k n).length = k
  | 0, _ => rfl
  | k + 1, n => by simp [be, be_length k]
theorem pow_mul {a b c : Nat} (h : a = b + c) : (2 : Int) ^ a = 2 ^ b * 2 ^ c := by rw [h, Int.pow_add]
theorem two_pos (a : Nat) : (0 : Int) < 2 ^ a := Int.pow_pos (by decide)
/-- Of so many bits of v, of width w, the bytes. -/
def wr (v : Int) (w j : Nat) : List Int := be ((j + 7) / 8) (v / 2 ^ (w - j) * 2 ^ (8 * ((j + 7) / 8) - j))
theorem wr_zero (v : Int) (w : Nat) : wr v w 0 = [] := rfl
theorem wr_full (v : Int) (k : Nat) : wr v (8 * k) (8 * k) = be k v := by
  unfold wr
  rw [show (8 * k + 7) / 8 = k by omega, Nat.sub_self]
  simp
theorem wr_length (v : Int) (w j : Nat) : (wr v w j).length = (j + 7) / 8 := be_length _ _
def bitOf (v : Int) (i : Nat) : Int := v / 2 ^ i % 2
theorem half_step (v : Int) (i : Nat) : v / 2 ^ i = 2 * (v / 2 ^ (i + 1)) + bitOf v i := by
  unfold bitOf
  rw [pow_mul (show i + 1 = i + 1 by rfl), ← Int.ediv_ediv_of_nonneg (Int.le_of_lt (two_pos i))]
  have : (2 : Int) ^ 1 = 2 := rfl
  rw [this]
  omega
/-- A new byte. -/
theorem wr_new {v : Int} {w j : Nat} (hj : j % 8 = 0) (hw : j < w) : wr v w (j + 1) = wr v w j ++ [bitOf v (w - (j + 1)) * 128] := by
  unfold wr
  have h := half_step v (w - (j + 1))
  rw [show w - (j + 1) + 1 = w - j by omega] at h
  obtain ⟨q, rfl⟩ : ∃ q, j = 8 * q := ⟨j / 8, by omega⟩
  rw [show (8 * q + 1 + 7) / 8 = q + 1 by omega, show (8 * q + 7) / 8 = q by omega, show 8 * (q + 1) - (8 * q + 1) = 7 by omega, Nat.sub_self, h]
  simp only [be]
  have hb : 0 ≤ bitOf v (w - (8 * q + 1)) ∧ bitOf v (w - (8 * q + 1)) < 2 := by unfold bitOf; omega
  have e : (2 : Int) ^ 7 = 128 := rfl
  rw [e]
  congr 1
  · congr 1
    simp
    omega
  · congr 1
    omega
theorem be_set {k : Nat} {n d : Int} (h : n % 256 + d < 256) (h0 : 0 ≤ n % 256 + d) : (be (k + 1) n).set k (n % 256 + d) = be (k + 1) (n + d) := by
  simp only [be]
  have e1 : (n + d) / 256 = n / 256 := by omega
  have e2 : (n + d) % 256 = n % 256 + d := by omega
  rw [e1, e2]
  have hl := be_length k (n / 256)
  rw [List.set_append_right _ _ (by omega), hl, Nat.sub_self]
  rfl
theorem be_last {k : Nat} {n : Int} : (be (k + 1) n).getD k 0 = n % 256 := by
  simp only [be]
  have hl := be_length k (n / 256)
  simp [List.getD, hl]
/-- One bit more in the last byte. -/
theorem wr_more {v : Int} {w j : Nat} (hj : j % 8 ≠ 0) (hw : j < w) :
    wr v w (j + 1) = (wr v w j).set (j / 8) ((wr v w j).getD (j / 8) 0 + bitOf v (w - (j + 1)) * 2 ^ (7 - j % 8)) ∧ (wr v w j).getD (j / 8) 0 % 2 ^ (8 - j % 8) = 0 ∧ 0 ≤ (wr v w j).getD (j / 8) 0 ∧ (wr v w j).getD (j / 8) 0 < 256 := by
  unfold wr
  have h := half_step v (w - (j + 1))
  rw [show w - (j + 1) + 1 = w - j by omega] at h
  have hb : bitOf v (w - (j + 1)) = 0 ∨ bitOf v (w - (j + 1)) = 1 := by unfold bitOf; omega
  obtain ⟨q, r, rfl, hr⟩ : ∃ q r, j = 8 * q + r ∧ (r = 1 ∨ r = 2 ∨ r = 3 ∨ r = 4 ∨ r = 5 ∨ r = 6 ∨ r = 7) := ⟨j / 8, j % 8, by omega, by omega⟩
  rw [show (8 * q + r + 1 + 7) / 8 = q + 1 by omega, show (8 * q + r + 7) / 8 = q + 1 by omega, show (8 * q + r) / 8 = q by omega, show (8 * q + r) % 8 = r by omega, be_last, h]
  generalize v / 2 ^ (w - (8 * q + r)) = a
  generalize bitOf v (w - (8 * q + r + 1)) = t at hb
  rcases hr with rfl | rfl | rfl | rfl | rfl | rfl | rfl
  all_goals
    simp only [show ∀ n, 8 * (q + 1) - (8 * q + n) = 8 - n by omega, show ∀ n, 8 * (q + 1) - (8 * q + n + 1) = 7 - n by omega]
    simp only [Nat.reduceSub, Int.reducePow]
    refine ⟨?_, by omega, by omega, by omega⟩
    rw [be_set (by omega) (by omega)]
    congr 1
    omega



theorem shr_zero {v w : Int} (hv : 0 ≤ v) (hw : 1 ≤ w) (hw' : w ≤ 32) : v.fdiv (2 ^ min w.toNat 64) = 0 ↔ v < 2 ^ w.toNat := by
  rw [Int.fdiv_eq_ediv_of_nonneg _ (Int.le_of_lt (two_pos _)), show min w.toNat 64 = w.toNat by omega]
  have h2 := two_pos w.toNat
  refine ⟨fun h => ?_, fun h => Int.ediv_eq_zero_of_lt hv h⟩
  rcases Int.lt_or_le v (2 ^ w.toNat) with h1 | h1
  · exact h1
  · have : 1 ≤ v / 2 ^ w.toNat := by rw [Int.le_ediv_iff_mul_le h2]; omega
    omega
def rightF (f : FieldT) : Bool := decide (1 ≤ f.width) && decide (f.width ≤ 32) && decide (0 ≤ f.value) && decide (f.value < 2 ^ f.width.toNat)
def bytesF (fs : List FieldT) : List Int := fs.flatMap fun f => be (f.width.toNat / 8) f.value
def putE (fs : List FieldT) : Int := if fs.all rightF then 0 else 2
def putB (xs : List Int) (fs : List FieldT) : List Int := if fs.all rightF then xs ++ bytesF fs else xs
theorem bytesF_len : ∀ (fs : List FieldT), fs.all rightF = true → (bytesF fs).length ≤ 4 * fs.length
  | [], _ => by simp [bytesF]
  | f :: fs, h => by
    rw [List.all_cons, Bool.and_eq_true] at h
    have := bytesF_len fs h.2
    simp only [bytesF, List.flatMap_cons, List.length_append, be_length, List.length_cons] at *
    have := h.1
    simp [rightF] at this
    omega
theorem bytesF_snoc (l : List FieldT) (f : FieldT) : bytesF (l ++ [f]) = bytesF l ++ be (f.width.toNat / 8) f.value := by simp [bytesF]
theorem bv_or {w : Nat} {a b : Int} (ha : 0 ≤ a) (hb : 0 ≤ b) (ha' : a < 2 ^ w) (hb' : b < 2 ^ w) : (BitVec.ofInt w a ||| BitVec.ofInt w b).toNat = a.toNat ||| b.toNat := by
  rw [BitVec.toNat_or, BitVec.toNat_ofInt, BitVec.toNat_ofInt, Int.emod_eq_of_lt ha (by simpa using ha'), Int.emod_eq_of_lt hb (by simpa using hb')]
theorem bv_and1 {w : Nat} {a : Int} (ha : 0 ≤ a) (ha' : a < 2 ^ w) (hw : 1 < w) : (BitVec.ofInt w a &&& BitVec.ofInt w 1).toNat = a.toNat % 2 := by
  have h1 : (1 : Int) < 2 ^ w := by
    obtain ⟨m, rfl⟩ : ∃ m, w = m + 1 := ⟨w - 1, by omega⟩
    have := two_pos m
    rw [Int.pow_succ]
    omega
  rw [BitVec.toNat_and, BitVec.toNat_ofInt, BitVec.toNat_ofInt, Int.emod_eq_of_lt ha (by simpa using ha'), Int.emod_eq_of_lt (by decide) (by simpa using h1)]
  exact Nat.and_one_is_mod _
/-- A bit laid into a byte whose last bits are none. -/
theorem or_bit {a t : Int} {s : Nat} (ha : 0 ≤ a) (ha' : a < 256) (ht : t = 0 ∨ t = 1) (hs : s ≤ 7) (hz : a % 2 ^ (s + 1) = 0) : ((BitVec.ofInt 8 a ||| BitVec.ofInt 8 (t * 2 ^ s)).toNat : Int) = a + t * 2 ^ s := by
  have hb : 0 ≤ t * 2 ^ s ∧ t * 2 ^ s < 2 ^ (s + 1) ∧ t * 2 ^ s < 256 := by
    have : s = 0 ∨ s = 1 ∨ s = 2 ∨ s = 3 ∨ s = 4 ∨ s = 5 ∨ s = 6 ∨ s = 7 := by omega
    rcases this with rfl | rfl | rfl | rfl | rfl | rfl | rfl | rfl <;> simp only [Nat.reduceAdd, Int.reducePow] <;> omega
  rw [bv_or ha hb.1 (by simpa using ha') (by simpa using hb.2.2)]
  obtain ⟨q, hq⟩ : ∃ q : Nat, a = ((2 ^ (s + 1) * q : Nat) : Int) := by
    refine ⟨(a / 2 ^ (s + 1)).toNat, ?_⟩
    have h1 : 0 ≤ a / 2 ^ (s + 1) := Int.ediv_nonneg ha (Int.le_of_lt (two_pos _))
    push_cast
    rw [Int.toNat_of_nonneg h1]
    have := Int.mul_ediv_add_emod a (2 ^ (s + 1))
    omega
  obtain ⟨r, hr⟩ : ∃ r : Nat, t * 2 ^ s = (r : Int) := ⟨_, (Int.toNat_of_nonneg hb.1).symm⟩
  have hr2 : r < 2 ^ (s + 1) := by have := hb.2.1; rw [hr] at this; exact_mod_cast this
  rw [hr, hq, Int.toNat_natCast, Int.toNat_natCast, ← Nat.two_pow_add_eq_or_of_lt hr2]
  push_cast
  rfl


end Go.Proofs.Ytncdakkigkmfjaa.Sx
