import Derived.Test.YtncdakkigkmfjaaProg
import Derived.Test.YtncdakkigkmfjaaSxU
import Derived.IntWalk
import Derived.Test.YtncdakkigkmfjaaF1s1
/-! bits -/
namespace Go.Proofs.Ytncdakkigkmfjaa.Sx
open Go
set_option linter.unusedVariables false
set_option linter.unusedSimpArgs false
set_option maxRecDepth 100000


def IP1 (fs : List FieldT) (i : Int) : Prop := ∃ j : Nat, j ≤ fs.length ∧ i = j ∧ (fs.take j).all rightF = true
def IP2 (b : List Int) (fs : List FieldT) (i : Int) (xs : List Int) (n : Int) : Prop := ∃ j : Nat, j ≤ fs.length ∧ i = j ∧ fs.all rightF = true ∧ xs = b ++ bytesF (fs.take j) ∧ n = 8 * xs.length
def IP3 (base : List Int) (f : FieldT) (i : Int) (xs : List Int) (n : Int) : Prop := ∃ k : Nat, k ≤ f.width ∧ i = f.width - 1 - k ∧ xs = base ++ wr f.value f.width.toNat k ∧ n = 8 * base.length + k
theorem all_getD {α : Type} {p : α → Bool} {l : List α} {d : α} {j : Nat} (h : l.all p = true) (hj : j < l.length) : p (l.getD j d) = true := by
  rw [show l.getD j d = l[j] by simp [List.getD, hj]]
  exact List.all_eq_true.1 h _ (List.getElem_mem hj)
theorem mem_getD {α : Type} {l : List α} {d : α} {j : Nat} (hj : j < l.length) : l.getD j d ∈ l := by
  rw [show l.getD j d = l[j] by simp [List.getD, hj]]
  exact List.getElem_mem hj
theorem rightF_w {f : FieldT} (h : rightF f = true) : 1 ≤ f.width ∧ f.width ≤ 32 ∧ 0 ≤ f.value ∧ f.value < 2 ^ f.width.toNat := by
  simpa [rightF, and_assoc] using h
theorem bit_of {v : Int} {i : Int} (hv : 0 ≤ v) (hv' : v < 4294967296) (hi : 0 ≤ i) (hi' : i < 32) :
    IntKind.u8.wrap (IntKind.i64.wrap ↑(BitVec.ofInt IntKind.i64.bits (v.fdiv (2 ^ min i.toNat IntKind.i64.bits)) &&& BitVec.ofInt IntKind.i64.bits 1).toNat) = bitOf v i.toNat := by
  have h2 := two_pos i.toNat
  rw [Int.fdiv_eq_ediv_of_nonneg _ (Int.le_of_lt (two_pos _)), show min i.toNat IntKind.i64.bits = i.toNat by simp [IntKind.bits]; omega]
  have h0 : 0 ≤ v / 2 ^ i.toNat := Int.ediv_nonneg hv (Int.le_of_lt h2)
  have h1 : v / 2 ^ i.toNat ≤ v := Int.ediv_le_self _ hv
  have hb : bitOf v i.toNat = 0 ∨ bitOf v i.toNat = 1 := by unfold bitOf; omega
  change IntKind.u8.wrap (IntKind.i64.wrap ↑(BitVec.ofInt 64 (v / 2 ^ i.toNat) &&& BitVec.ofInt 64 1).toNat) = _
  rw [bv_and1 h0 (show _ < (2 : Int) ^ 64 by simp only [Int.reducePow]; omega) (by decide)]
  unfold bitOf at *
  rw [show ((((v / 2 ^ i.toNat).toNat % 2 : Nat)) : Int) = v / 2 ^ i.toNat % 2 by omega, wrap64 (by omega) (by omega)]
  rcases hb with e | e <;> rw [e] <;> rfl
theorem wrapU8 {n : Int} (h : 0 ≤ n) (h' : n < 256) : IntKind.u8.wrap n = n := by
  simp [IntKind.wrap, IntKind.bits, IntKind.signed]; omega
theorem bit_laid {a t : Int} {s : Nat} (ha : 0 ≤ a) (ha' : a < 256) (ht : t = 0 ∨ t = 1) (hs : s ≤ 7) (hz : a % 2 ^ (s + 1) = 0) (hle : a + t * 2 ^ s < 256) :
    IntKind.u8.wrap ↑(BitVec.ofInt IntKind.u8.bits a ||| BitVec.ofInt IntKind.u8.bits (IntKind.u8.wrap (t * 2 ^ min s IntKind.u8.bits))).toNat = a + t * 2 ^ s := by
  have hb : 0 ≤ t * 2 ^ s ∧ t * 2 ^ s < 256 := by
    have : s = 0 ∨ s = 1 ∨ s = 2 ∨ s = 3 ∨ s = 4 ∨ s = 5 ∨ s = 6 ∨ s = 7 := by omega
    rcases this with rfl | rfl | rfl | rfl | rfl | rfl | rfl | rfl <;> simp only [Int.reducePow] <;> omega
  rw [show min s IntKind.u8.bits = s by simp [IntKind.bits]; omega, wrapU8 hb.1 hb.2]
  rw [show ((BitVec.ofInt IntKind.u8.bits a ||| BitVec.ofInt IntKind.u8.bits (t * 2 ^ s)).toNat : Int) = a + t * 2 ^ s from or_bit ha ha' ht hs hz]
  exact wrapU8 (by omega) hle
theorem getD_append_at {α : Type} {l r : List α} {i n : Nat} {d : α} (h : n = l.length + i) : (l ++ r).getD n d = r.getD i d := by
  subst h; unfold List.getD; rw [List.getElem?_append_right (by omega), Nat.add_sub_cancel_left]
theorem set_append_at {α : Type} {l r : List α} {i n : Nat} {x : α} (h : n = l.length + i) : (l ++ r).set n x = l ++ r.set i x := by
  subst h; rw [List.set_append_right _ _ (by omega), Nat.add_sub_cancel_left]
/-- A bit is laid where a byte is begun. -/
theorem put_new {base : List Int} {v w : Int} {k : Nat} (hv : 0 ≤ v) (hv' : v < 4294967296) (hk : (k : Int) < w) (hw : w ≤ 32) (h8 : k % 8 = 0) {ix : Nat} (hix : ix = base.length + k / 8) {i : Int} (hi : i = w - 1 - k) {sh : Nat} (hsh : sh = 7) :
    ((base ++ wr v w.toNat k) ++ [0]).set ix (IntKind.u8.wrap ↑(BitVec.ofInt IntKind.u8.bits (((base ++ wr v w.toNat k) ++ [0]).getD ix 0) ||| BitVec.ofInt IntKind.u8.bits (IntKind.u8.wrap (IntKind.u8.wrap (IntKind.i64.wrap ↑(BitVec.ofInt IntKind.i64.bits (v.fdiv (2 ^ min i.toNat IntKind.i64.bits)) &&& BitVec.ofInt IntKind.i64.bits 1).toNat) * 2 ^ min sh IntKind.u8.bits))).toNat) = base ++ wr v w.toNat (k + 1) := by
  subst hsh
  have hl : (wr v w.toNat k).length = k / 8 := by rw [wr_length]; omega
  have hb : bitOf v i.toNat = 0 ∨ bitOf v i.toNat = 1 := by unfold bitOf; omega
  rw [bit_of hv hv' (by omega) (by omega), List.append_assoc, getD_append_at (l := base) (i := k / 8) hix, getD_append_at (l := wr v w.toNat k) (i := 0) (by omega)]
  rw [show ([0] : List Int).getD 0 0 = 0 from rfl, bit_laid (by decide) (by decide) hb (by decide) (by simp) (by rcases hb with e | e <;> rw [e] <;> decide)]
  rw [set_append_at (l := base) (i := k / 8) hix, set_append_at (l := wr v w.toNat k) (i := 0) (by omega), wr_new h8 (by omega)]
  rw [show w.toNat - (k + 1) = i.toNat by omega]
  simp
/-- A bit is laid behind others. -/
theorem put_more {base : List Int} {v w : Int} {k : Nat} (hv : 0 ≤ v) (hv' : v < 4294967296) (hk : (k : Int) < w) (hw : w ≤ 32) (h8 : k % 8 ≠ 0) {ix : Nat} (hix : ix = base.length + k / 8) {i : Int} (hi : i = w - 1 - k) {sh : Nat} (hsh : sh = 7 - k % 8) :
    (base ++ wr v w.toNat k).set ix (IntKind.u8.wrap ↑(BitVec.ofInt IntKind.u8.bits ((base ++ wr v w.toNat k).getD ix 0) ||| BitVec.ofInt IntKind.u8.bits (IntKind.u8.wrap (IntKind.u8.wrap (IntKind.i64.wrap ↑(BitVec.ofInt IntKind.i64.bits (v.fdiv (2 ^ min i.toNat IntKind.i64.bits)) &&& BitVec.ofInt IntKind.i64.bits 1).toNat) * 2 ^ min sh IntKind.u8.bits))).toNat) = base ++ wr v w.toNat (k + 1) := by
  subst hsh
  have hb : bitOf v i.toNat = 0 ∨ bitOf v i.toNat = 1 := by unfold bitOf; omega
  obtain ⟨h1, h2, h3, h4⟩ := wr_more (v := v) (w := w.toNat) h8 (by omega)
  rw [show w.toNat - (k + 1) = i.toNat by omega] at h1
  rw [bit_of hv hv' (by omega) (by omega), getD_append_at (l := base) (i := k / 8) hix]
  have hle : (wr v w.toNat k).getD (k / 8) 0 + bitOf v i.toNat * 2 ^ (7 - k % 8) < 256 := by
    generalize (wr v w.toNat k).getD (k / 8) 0 = a at *
    have hm : k % 8 = 1 ∨ k % 8 = 2 ∨ k % 8 = 3 ∨ k % 8 = 4 ∨ k % 8 = 5 ∨ k % 8 = 6 ∨ k % 8 = 7 := by omega
    rcases hm with e | e | e | e | e | e | e <;> rw [e] at h2 ⊢ <;> simp only [Nat.reduceSub, Int.reducePow] at h2 ⊢ <;> omega
  rw [bit_laid h3 h4 hb (by omega) (by rw [show 7 - k % 8 + 1 = 8 - k % 8 by omega]; exact h2) hle, set_append_at (l := base) (i := k / 8) hix, h1]


end Go.Proofs.Ytncdakkigkmfjaa.Sx
