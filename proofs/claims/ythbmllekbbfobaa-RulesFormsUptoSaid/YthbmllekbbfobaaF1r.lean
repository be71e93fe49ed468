import Derived.Test.YthbmllekbbfobaaProg
import Derived.Test.YthbmllekbbfobaaSxU
import Derived.IntWalk
import Derived.Test.YthbmllekbbfobaaKb
/-! bits -/
namespace Go.Proofs.Ythbmllekbbfobaa.Sx
open Go
set_option linter.unusedVariables false
set_option linter.unusedSimpArgs false
set_option maxRecDepth 100000

/-- n in k bytes, the greatest first. -/
def be : Nat → Int → List Int
  | 0, _ => []
  | k + 1, n => be k (n / 256) ++ [n % 256]
theorem be_length : ∀ (k : Nat) (n : Int), (be k n).length = k
  | 0, _ => rfl
  | k + 1, n => by simp [be, be_length k]
theorem pow_mul {a b c : Nat} (h : a = b + c) : (2 : Int) ^ a = 2 ^ b * 2 ^ c := by rw [h, Int.pow_add]
theorem two_pos (a : Nat) : (0 : Int) < 2 ^ a := Int.pow_pos (by decide)
/-- Of so many bits of v, of width w, the bytes. -/
def wr (v : Int) (w j : Nat) : List Int := be ((j + 7) / 8) (v / 2 ^ (w - j) * 2 ^ (8 * ((j + 7) / 8) - j))
theorem wr_zero (v : Int) (w : Nat) : wr v w 0 = [] := rfl
theorem wr_full (v : Int) (k : Nat) : wr v (8 * k) (8 * k) = be k v := by
  unfold wr
  rw [show (8 * k + 7) / 8 = k by omega, Nat.sub_self]
  simp
theorem wr_length (v : Int) (w j : Nat) : (wr v w j).length = (j + 7) / 8 := be_length _ _
def bitOf (v : Int) (i : Nat) : Int := v / 2 ^ i % 2
theorem half_step (v : Int) (i : Nat) : v / 2 ^ i = 2 * (v / 2 ^ (i + 1)) + bitOf v i := by
  unfold bitOf
  rw [pow_mul (show i + 1 = i + 1 by rfl), ← Int.ediv_ediv_of_nonneg (Int.le_of_lt (two_pos i))]
  have : (2 : Int) ^ 1 = 2 := rfl
  rw [this]
  omega
/-- A new byte. -/
theorem wr_new {v : Int} {w j : Nat} (hj : j % 8 = 0) (hw : j < w) : wr v w (j + 1) = wr v w j ++ [bitOf v (w - (j + 1)) * 128] := by
  unfold wr
  have h := half_step v (w - (j + 1))
  rw [show w - (j + 1) + 1 = w - j by omega] at h
  obtain ⟨q, rfl⟩ : ∃ q, j = 8 * q := ⟨j / 8, by omega⟩
  rw [show (8 * q + 1 + 7) / 8 = q + 1 by omega, show (8 * q + 7) / 8 = q by omega, show 8 * (q + 1) - (8 * q + 1) = 7 by omega, Nat.sub_self, h]
  simp only [be]
  have hb : 0 ≤ bitOf v (w - (8 * q + 1)) ∧ bitOf v (w - (8 * q + 1)) < 2 := by unfold bitOf; omega
  have e : (2 : Int) ^ 7 = 128 := rfl
  rw [e]
  congr 1
  · congr 1
    simp
    omega
  · congr 1
    omega
theorem be_set {k : Nat} {n d : Int} (h : n % 256 + d < 256) (h0 : 0 ≤ n % 256 + d) : (be (k + 1) n).set k (n % 256 + d) = be (k + 1) (n + d) := by
  simp only [be]
  have e1 : (n + d) / 256 = n / 256 := by omega
  have e2 : (n + d) % 256 = n % 256 + d := by omega
  rw [e1, e2]
  have hl := be_length k (n / 256)
  rw [List.set_append_right _ _ (by omega), hl, Nat.sub_self]
  rfl
theorem be_last {k : Nat} {n : Int} : (be (k + 1) n).getD k 0 = n % 256 := by
  simp only [be]
  have hl := be_length k (n / 256)
  simp [List.getD, hl]
/-- One bit more in the last byte. -/
theorem wr_more {v : Int} {w j : Nat} (hj : j % 8 ≠ 0) (hw : j < w) :
    wr v w (j + 1) = (wr v w j).set (j / 8) ((wr v w j).getD (j / 8) 0 + bitOf v (w - (j + 1)) * 2 ^ (7 - j % 8)) ∧ (wr v w j).getD (j / 8) 0 % 2 ^ (8 - j % 8) = 0 ∧ 0 ≤ (wr v w j).getD (j / 8) 0 ∧ (wr v w j).getD (j / 8) 0 < 256 := by
  unfold wr
  have h := half_step v (w - (j + 1))
  rw [show w - (j + 1) + 1 = w - j by omega] at h
  have hb : bitOf v (w - (j + 1)) = 0 ∨ bitOf v (w - (j + 1)) = 1 := by unfold bitOf; omega
  obtain ⟨q, r, rfl, hr⟩ : ∃ q r, j = 8 * q + r ∧ (r = 1 ∨ r = 2 ∨ r = 3 ∨ r = 4 ∨ r = 5 ∨ r = 6 ∨ r = 7) := ⟨j / 8, j % 8, by omega, by omega⟩
  rw [show (8 * q + r + 1 + 7) / 8 = q + 1 by omega, show (8 * q + r + 7) / 8 = q + 1 by omega, show (8 * q + r) / 8 = q by omega, show (8 * q + r) % 8 = r by omega, be_last, h]
  generalize v / 2 ^ (w - (8 * q + r)) = a
  generalize bitOf v (w - (8 * q + r + 1)) = t at hb
  rcases hr with rfl | rfl | rfl | rfl | rfl | rfl | rfl
  all_goals
    simp only [show ∀ n, 8 * (q + 1) - (8 * q + n) = 8 - n by omega, show ∀ n, 8 * (q + 1) - (8 * q + n + 1) = 7 - n by omega]
    simp only [Nat.reduceSub, Int.reducePow]
    refine ⟨?_, by omega, by omega, by omega⟩
    rw [be_set (by omega) (by omega)]
    congr 1
    omega



theorem shr_zero {v w : Int} (hv : 0 ≤ v) (hw : 1 ≤ w) (hw' : w ≤ 32) : v.fdiv (2 ^ min w.toNat 64) = 0 ↔ v < 2 ^ w.toNat := by
  rw [Int.fdiv_eq_ediv_of_nonneg _ (Int.le_of_lt (two_pos _)), show min w.toNat 64 = w.toNat by omega]
  have h2 := two_pos w.toNat
  refine ⟨fun h => ?_, fun h => Int.ediv_eq_zero_of_lt hv h⟩
  rcases Int.lt_or_le v (2 ^ w.toNat) with h1 | h1
  · exact h1
  · have : 1 ≤ v / 2 ^ w.toNat := by rw [Int.le_ediv_iff_mul_le h2]; omega
    omega
def rightF (f : FieldT) : Bool := decide (1 ≤ f.width) && decide (f.width ≤ 32) && decide (0 ≤ f.value) && decide (f.value < 2 ^ f.width.toNat)
def bytesF (fs : List FieldT) : List Int := fs.flatMap fun f => be (f.width.toNat / 8) f.value
def putE (fs : List FieldT) : Int := if fs.all rightF then 0 else 2
def putB (xs : List Int) (fs : List FieldT) : List Int := if fs.all rightF then xs ++ bytesF fs else xs
theorem bytesF_len : ∀ (fs : List FieldT), fs.all rightF = true → (bytesF fs).length ≤ 4 * fs.length
  | [], _ => by simp [bytesF]
  | f :: fs, h => by
    rw [List.all_cons, Bool.and_eq_true] at h
    have := bytesF_len fs h.2
    simp only [bytesF, List.flatMap_cons, List.length_append, be_length, List.length_cons] at *
    have := h.1
    simp [rightF] at this
    omega
theorem bytesF_snoc (l : List FieldT) (f : FieldT) : bytesF (l ++ [f]) = bytesF l ++ be (f.width.toNat / 8) f.value := by simp [bytesF]
theorem bv_or {w : Nat} {a b : Int} (ha : 0 ≤ a) (hb : 0 ≤ b) (ha' : a < 2 ^ w) (hb' : b < 2 ^ w) : (BitVec.ofInt w a ||| BitVec.ofInt w b).toNat = a.toNat ||| b.toNat := by
  rw [BitVec.toNat_or, BitVec.toNat_ofInt, BitVec.toNat_ofInt, Int.emod_eq_of_lt ha (by simpa using ha'), Int.emod_eq_of_lt hb (by simpa using hb')]
theorem bv_and1 {w : Nat} {a : Int} (ha : 0 ≤ a) (ha' : a < 2 ^ w) (hw : 1 < w) : (BitVec.ofInt w a &&& BitVec.ofInt w 1).toNat = a.toNat % 2 := by
  have h1 : (1 : Int) < 2 ^ w := by
    obtain ⟨m, rfl⟩ : ∃ m, w = m + 1 := ⟨w - 1, by omega⟩
    have := two_pos m
    rw [Int.pow_succ]
    omega
  rw [BitVec.toNat_and, BitVec.toNat_ofInt, BitVec.toNat_ofInt, Int.emod_eq_of_lt ha (by simpa using ha'), Int.emod_eq_of_lt (by decide) (by simpa using h1)]
  exact Nat.and_one_is_mod _
/-- A bit laid into a byte whose last bits are none. -/
theorem or_bit {a t : Int} {s : Nat} (ha : 0 ≤ a) (ha' : a < 256) (ht : t = 0 ∨ t = 1) (hs : s ≤ 7) (hz : a % 2 ^ (s + 1) = 0) : ((BitVec.ofInt 8 a ||| BitVec.ofInt 8 (t * 2 ^ s)).toNat : Int) = a + t * 2 ^ s := by
  have hb : 0 ≤ t * 2 ^ s ∧ t * 2 ^ s < 2 ^ (s + 1) ∧ t * 2 ^ s < 256 := by
    have : s = 0 ∨ s = 1 ∨ s = 2 ∨ s = 3 ∨ s = 4 ∨ s = 5 ∨ s = 6 ∨ s = 7 := by omega
    rcases this with rfl | rfl | rfl | rfl | rfl | rfl | rfl | rfl <;> simp only [Nat.reduceAdd, Int.reducePow] <;> omega
  rw [bv_or ha hb.1 (by simpa using ha') (by simpa using hb.2.2)]
  obtain ⟨q, hq⟩ : ∃ q : Nat, a = ((2 ^ (s + 1) * q : Nat) : Int) := by
    refine ⟨(a / 2 ^ (s + 1)).toNat, ?_⟩
    have h1 : 0 ≤ a / 2 ^ (s + 1) := Int.ediv_nonneg ha (Int.le_of_lt (two_pos _))
    push_cast
    rw [Int.toNat_of_nonneg h1]
    have := Int.mul_ediv_add_emod a (2 ^ (s + 1))
    omega
  obtain ⟨r, hr⟩ : ∃ r : Nat, t * 2 ^ s = (r : Int) := ⟨_, (Int.toNat_of_nonneg hb.1).symm⟩
  have hr2 : r < 2 ^ (s + 1) := by have := hb.2.1; rw [hr] at this; exact_mod_cast this
  rw [hr, hq, Int.toNat_natCast, Int.toNat_natCast, ← Nat.two_pow_add_eq_or_of_lt hr2]
  push_cast
  rfl



def IP1 (fs : List FieldT) (i : Int) : Prop := ∃ j : Nat, j ≤ fs.length ∧ i = j ∧ (fs.take j).all rightF = true
def IP2 (b : List Int) (fs : List FieldT) (i : Int) (xs : List Int) (n : Int) : Prop := ∃ j : Nat, j ≤ fs.length ∧ i = j ∧ fs.all rightF = true ∧ xs = b ++ bytesF (fs.take j) ∧ n = 8 * xs.length
def IP3 (base : List Int) (f : FieldT) (i : Int) (xs : List Int) (n : Int) : Prop := ∃ k : Nat, k ≤ f.width ∧ i = f.width - 1 - k ∧ xs = base ++ wr f.value f.width.toNat k ∧ n = 8 * base.length + k
theorem all_getD {α : Type} {p : α → Bool} {l : List α} {d : α} {j : Nat} (h : l.all p = true) (hj : j < l.length) : p (l.getD j d) = true := by
  rw [show l.getD j d = l[j] by simp [List.getD, hj]]
  exact List.all_eq_true.1 h _ (List.getElem_mem hj)
theorem mem_getD {α : Type} {l : List α} {d : α} {j : Nat} (hj : j < l.length) : l.getD j d ∈ l := by
  rw [show l.getD j d = l[j] by simp [List.getD, hj]]
  exact List.getElem_mem hj
theorem rightF_w {f : FieldT} (h : rightF f = true) : 1 ≤ f.width ∧ f.width ≤ 32 ∧ 0 ≤ f.value ∧ f.value < 2 ^ f.width.toNat := by
  simpa [rightF, and_assoc] using h
theorem bit_of {v : Int} {i : Int} (hv : 0 ≤ v) (hv' : v < 4294967296) (hi : 0 ≤ i) (hi' : i < 32) :
    IntKind.u8.wrap (IntKind.i64.wrap ↑(BitVec.ofInt IntKind.i64.bits (v.fdiv (2 ^ min i.toNat IntKind.i64.bits)) &&& BitVec.ofInt IntKind.i64.bits 1).toNat) = bitOf v i.toNat := by
  have h2 := two_pos i.toNat
  rw [Int.fdiv_eq_ediv_of_nonneg _ (Int.le_of_lt (two_pos _)), show min i.toNat IntKind.i64.bits = i.toNat by simp [IntKind.bits]; omega]
  have h0 : 0 ≤ v / 2 ^ i.toNat := Int.ediv_nonneg hv (Int.le_of_lt h2)
  have h1 : v / 2 ^ i.toNat ≤ v := Int.ediv_le_self _ hv
  have hb : bitOf v i.toNat = 0 ∨ bitOf v i.toNat = 1 := by unfold bitOf; omega
  change IntKind.u8.wrap (IntKind.i64.wrap ↑(BitVec.ofInt 64 (v / 2 ^ i.toNat) &&& BitVec.ofInt 64 1).toNat) = _
  rw [bv_and1 h0 (show _ < (2 : Int) ^ 64 by simp only [Int.reducePow]; omega) (by decide)]
  unfold bitOf at *
  rw [show ((((v / 2 ^ i.toNat).toNat % 2 : Nat)) : Int) = v / 2 ^ i.toNat % 2 by omega, wrap64 (by omega) (by omega)]
  rcases hb with e | e <;> rw [e] <;> rfl
theorem wrapU8 {n : Int} (h : 0 ≤ n) (h' : n < 256) : IntKind.u8.wrap n = n := by
  simp [IntKind.wrap, IntKind.bits, IntKind.signed]; omega
theorem bit_laid {a t : Int} {s : Nat} (ha : 0 ≤ a) (ha' : a < 256) (ht : t = 0 ∨ t = 1) (hs : s ≤ 7) (hz : a % 2 ^ (s + 1) = 0) (hle : a + t * 2 ^ s < 256) :
    IntKind.u8.wrap ↑(BitVec.ofInt IntKind.u8.bits a ||| BitVec.ofInt IntKind.u8.bits (IntKind.u8.wrap (t * 2 ^ min s IntKind.u8.bits))).toNat = a + t * 2 ^ s := by
  have hb : 0 ≤ t * 2 ^ s ∧ t * 2 ^ s < 256 := by
    have : s = 0 ∨ s = 1 ∨ s = 2 ∨ s = 3 ∨ s = 4 ∨ s = 5 ∨ s = 6 ∨ s = 7 := by omega
    rcases this with rfl | rfl | rfl | rfl | rfl | rfl | rfl | rfl <;> simp only [Int.reducePow] <;> omega
  rw [show min s IntKind.u8.bits = s by simp [IntKind.bits]; omega, wrapU8 hb.1 hb.2]
  rw [show ((BitVec.ofInt IntKind.u8.bits a ||| BitVec.ofInt IntKind.u8.bits (t * 2 ^ s)).toNat : Int) = a + t * 2 ^ s from or_bit ha ha' ht hs hz]
  exact wrapU8 (by omega) hle
theorem getD_append_at {α : Type} {l r : List α} {i n : Nat} {d : α} (h : n = l.length + i) : (l ++ r).getD n d = r.getD i d := by
  subst h; unfold List.getD; rw [List.getElem?_append_right (by omega), Nat.add_sub_cancel_left]
theorem set_append_at {α : Type} {l r : List α} {i n : Nat} {x : α} (h : n = l.length + i) : (l ++ r).set n x = l ++ r.set i x := by
  subst h; rw [List.set_append_right _ _ (by omega), Nat.add_sub_cancel_left]
/-- A bit is laid where a byte is begun. -/
theorem put_new {base : List Int} {v w : Int} {k : Nat} (hv : 0 ≤ v) (hv' : v < 4294967296) (hk : (k : Int) < w) (hw : w ≤ 32) (h8 : k % 8 = 0) {ix : Nat} (hix : ix = base.length + k / 8) {i : Int} (hi : i = w - 1 - k) {sh : Nat} (hsh : sh = 7) :
    ((base ++ wr v w.toNat k) ++ [0]).set ix (IntKind.u8.wrap ↑(BitVec.ofInt IntKind.u8.bits (((base ++ wr v w.toNat k) ++ [0]).getD ix 0) ||| BitVec.ofInt IntKind.u8.bits (IntKind.u8.wrap (IntKind.u8.wrap (IntKind.i64.wrap ↑(BitVec.ofInt IntKind.i64.bits (v.fdiv (2 ^ min i.toNat IntKind.i64.bits)) &&& BitVec.ofInt IntKind.i64.bits 1).toNat) * 2 ^ min sh IntKind.u8.bits))).toNat) = base ++ wr v w.toNat (k + 1) := by
  subst hsh
  have hl : (wr v w.toNat k).length = k / 8 := by rw [wr_length]; omega
  have hb : bitOf v i.toNat = 0 ∨ bitOf v i.toNat = 1 := by unfold bitOf; omega
  rw [bit_of hv hv' (by omega) (by omega), List.append_assoc, getD_append_at (l := base) (i := k / 8) hix, getD_append_at (l := wr v w.toNat k) (i := 0) (by omega)]
  rw [show ([0] : List Int).getD 0 0 = 0 from rfl, bit_laid (by decide) (by decide) hb (by decide) (by simp) (by rcases hb with e | e <;> rw [e] <;> decide)]
  rw [set_append_at (l := base) (i := k / 8) hix, set_append_at (l := wr v w.toNat k) (i := 0) (by omega), wr_new h8 (by omega)]
  rw [show w.toNat - (k + 1) = i.toNat by omega]
  simp
/-- A bit is laid behind others. -/
theorem put_more {base : List Int} {v w : Int} {k : Nat} (hv : 0 ≤ v) (hv' : v < 4294967296) (hk : (k : Int) < w) (hw : w ≤ 32) (h8 : k % 8 ≠ 0) {ix : Nat} (hix : ix = base.length + k / 8) {i : Int} (hi : i = w - 1 - k) {sh : Nat} (hsh : sh = 7 - k % 8) :
    (base ++ wr v w.toNat k).set ix (IntKind.u8.wrap ↑(BitVec.ofInt IntKind.u8.bits ((base ++ wr v w.toNat k).getD ix 0) ||| BitVec.ofInt IntKind.u8.bits (IntKind.u8.wrap (IntKind.u8.wrap (IntKind.i64.wrap ↑(BitVec.ofInt IntKind.i64.bits (v.fdiv (2 ^ min i.toNat IntKind.i64.bits)) &&& BitVec.ofInt IntKind.i64.bits 1).toNat) * 2 ^ min sh IntKind.u8.bits))).toNat) = base ++ wr v w.toNat (k + 1) := by
  subst hsh
  have hb : bitOf v i.toNat = 0 ∨ bitOf v i.toNat = 1 := by unfold bitOf; omega
  obtain ⟨h1, h2, h3, h4⟩ := wr_more (v := v) (w := w.toNat) h8 (by omega)
  rw [show w.toNat - (k + 1) = i.toNat by omega] at h1
  rw [bit_of hv hv' (by omega) (by omega), getD_append_at (l := base) (i := k / 8) hix]
  have hle : (wr v w.toNat k).getD (k / 8) 0 + bitOf v i.toNat * 2 ^ (7 - k % 8) < 256 := by
    generalize (wr v w.toNat k).getD (k / 8) 0 = a at *
    have hm : k % 8 = 1 ∨ k % 8 = 2 ∨ k % 8 = 3 ∨ k % 8 = 4 ∨ k % 8 = 5 ∨ k % 8 = 6 ∨ k % 8 = 7 := by omega
    rcases hm with e | e | e | e | e | e | e <;> rw [e] at h2 ⊢ <;> simp only [Nat.reduceSub, Int.reducePow] at h2 ⊢ <;> omega
  rw [bit_laid h3 h4 hb (by omega) (by rw [show 7 - k % 8 + 1 = 8 - k % 8 by omega]; exact h2) hle, set_append_at (l := base) (i := k / 8) hix, h1]



def num (bs : List Int) : Int := bs.foldl (fun a b => 256 * a + b) 0
theorem num_snoc (l : List Int) (b : Int) : num (l ++ [b]) = 256 * num l + b := by simp [num]
def isB (xs : List Int) : Prop := ∀ x ∈ xs, 0 ≤ x ∧ x < 256
theorem isB.take {l : List Int} (h : isB l) (n : Nat) : isB (l.take n) := fun x hx => h x (List.mem_of_mem_take hx)
theorem isB.drop {l : List Int} (h : isB l) (n : Nat) : isB (l.drop n) := fun x hx => h x (List.mem_of_mem_drop hx)
theorem isB.append {l r : List Int} (h : isB l) (k : isB r) : isB (l ++ r) := fun x hx => (List.mem_append.1 hx).elim (h x) (k x)
theorem isB.getD {l : List Int} (h : isB l) (n : Nat) : 0 ≤ l.getD n 0 ∧ l.getD n 0 < 256 := by
  by_cases e : n < l.length
  · exact h _ (mem_getD e)
  · simp [List.getD, List.getElem?_eq_none (by omega : l.length ≤ n)]
theorem be_isB : ∀ (k : Nat) (n : Int), isB (be k n)
  | 0, _ => fun x h => by simp [be] at h
  | k + 1, n => isB.append (be_isB k _) fun x h => by simp at h; omega
theorem take_succ {l : List Int} {n : Nat} (h : n < l.length) : l.take (n + 1) = l.take n ++ [l.getD n 0] := take_getD h
theorem num_div {l : List Int} (h : isB l) : ∀ (r : Nat), r ≤ l.length → num l / 2 ^ (8 * r) = num (l.take (l.length - r))
  | 0, _ => by simp
  | r + 1, hr => by
    rw [pow_mul (show 8 * (r + 1) = 8 * r + 8 by omega), ← Int.ediv_ediv_of_nonneg (Int.le_of_lt (two_pos _)), num_div h r (by omega)]
    obtain ⟨m, hm⟩ : ∃ m, l.length - r = m + 1 := ⟨l.length - r - 1, by omega⟩
    rw [hm, take_succ (by omega), num_snoc, show l.length - (r + 1) = m by omega]
    have := h.getD m
    simp only [Int.reducePow]
    omega
theorem num_lt {l : List Int} (h : isB l) : 0 ≤ num l ∧ num l < 2 ^ (8 * l.length) := by
  have e := num_div h l.length (Nat.le_refl _)
  rw [Nat.sub_self, List.take_zero, show num [] = 0 from rfl] at e
  have h2 := two_pos (8 * l.length)
  have := Int.emod_nonneg (num l) (Int.ne_of_gt h2)
  have h3 := Int.emod_lt_of_pos (num l) h2
  have h4 := Int.mul_ediv_add_emod (num l) (2 ^ (8 * l.length))
  rw [e] at h4
  simp at h4
  omega
theorem rd_bit {l : List Int} (h : isB l) {j : Nat} (hj : j < 8 * l.length) : l.getD (j / 8) 0 / 2 ^ (7 - j % 8) % 2 = bitOf (num l) (8 * l.length - (j + 1)) := by
  unfold bitOf
  rw [pow_mul (show 8 * l.length - (j + 1) = 8 * (l.length - j / 8 - 1) + (7 - j % 8) by omega), ← Int.ediv_ediv_of_nonneg (Int.le_of_lt (two_pos _)), num_div h _ (by omega), show l.length - (l.length - j / 8 - 1) = j / 8 + 1 by omega, take_succ (by omega), num_snoc]
  have := h.getD (j / 8)
  generalize l.getD (j / 8) 0 = b at *
  generalize num (l.take (j / 8)) = a
  have hm : j % 8 = 0 ∨ j % 8 = 1 ∨ j % 8 = 2 ∨ j % 8 = 3 ∨ j % 8 = 4 ∨ j % 8 = 5 ∨ j % 8 = 6 ∨ j % 8 = 7 := by omega
  rcases hm with e | e | e | e | e | e | e | e <;> rw [e] <;> simp only [Nat.reduceSub, Int.reducePow] <;> omega
def rd : List Int → List Int → List Int
  | _, [] => []
  | bs, w :: ws => num (bs.take (w.toNat / 8)) :: rd (bs.drop (w.toNat / 8)) ws
def sumB : List Int → Nat
  | [] => 0
  | w :: ws => w.toNat / 8 + sumB ws
theorem rd_snoc : ∀ (ws : List Int) (bs : List Int) (w : Int), rd bs (ws ++ [w]) = rd bs ws ++ [num ((bs.drop (sumB ws)).take (w.toNat / 8))]
  | [], bs, w => by simp [rd, sumB]
  | v :: ws, bs, w => by simp [rd, sumB, rd_snoc ws, List.drop_drop, Nat.add_comm]
theorem rd_length : ∀ (ws bs : List Int), (rd bs ws).length = ws.length
  | [], _ => rfl
  | w :: ws, bs => by simp [rd, rd_length ws]
def okW (ws : List Int) : Bool := ws.all fun w => decide (1 ≤ w) && decide (w ≤ 32)
def takeE (len : Nat) (at_ e : Int) (ws : List Int) : Int := if e ≠ 0 then e else if okW ws = false then 2 else if 8 * len - at_ < ws.sum then 10 else 0
def takeN (b : List Int) (at_ e : Int) (ws : List Int) : List Int := if takeE b.length at_ e ws = 0 then rd (b.drop (at_ / 8).toNat) ws else []
def takeAt (len : Nat) (at_ e : Int) (ws : List Int) : Int := if takeE len at_ e ws = 0 then at_ + ws.sum else at_
theorem sum_take {ws : List Int} {j : Nat} (hj : j < ws.length) : (ws.take (j + 1)).sum = (ws.take j).sum + ws.getD j 0 := by
  rw [take_succ hj]; simp
theorem okW_take {ws : List Int} {j : Nat} (hj : j < ws.length) : okW (ws.take (j + 1)) = (okW (ws.take j) && (decide (1 ≤ ws.getD j 0) && decide (ws.getD j 0 ≤ 32))) := by
  rw [take_succ hj]; simp [okW]
theorem okW_sum : ∀ {ws : List Int}, okW ws = true → 0 ≤ ws.sum ∧ ws.sum ≤ 32 * ws.length
  | [], _ => by simp
  | w :: ws, h => by
    simp only [okW, List.all_cons, Bool.and_eq_true, decide_eq_true_eq] at h
    have := okW_sum (ws := ws) h.2
    simp only [List.sum_cons, List.length_cons]
    omega
theorem sumB_sum : ∀ {ws : List Int}, okW ws = true → (∀ w ∈ ws, w % 8 = 0) → ws.sum = 8 * sumB ws
  | [], _, _ => by simp [sumB]
  | w :: ws, h, h8 => by
    simp only [okW, List.all_cons, Bool.and_eq_true, decide_eq_true_eq] at h
    have := sumB_sum (ws := ws) h.2 fun x hx => h8 x (List.mem_cons_of_mem _ hx)
    have := h8 w (by simp)
    simp only [List.sum_cons, sumB]
    omega
theorem okW_pre {ws : List Int} {j : Nat} (h : okW ws = true) : okW (ws.take j) = true := by
  simp only [okW, List.all_eq_true] at *
  exact fun x hx => h x (List.mem_of_mem_take hx)
theorem sum_pre {ws : List Int} {j : Nat} (h : okW ws = true) (hj : j < ws.length) : (ws.take j).sum + ws.getD j 0 ≤ ws.sum := by
  rw [← sum_take hj]
  have h1 : ws = ws.take (j + 1) ++ ws.drop (j + 1) := (List.take_append_drop _ _).symm
  have h2 : okW (ws.drop (j + 1)) = true := by
    simp only [okW, List.all_eq_true] at *
    exact fun x hx => h x (List.mem_of_mem_drop hx)
  have := (okW_sum h2).1
  have h3 : ws.sum = (ws.take (j + 1)).sum + (ws.drop (j + 1)).sum := by rw [← List.sum_append, List.take_append_drop]
  omega
theorem okW_get {ws : List Int} {j : Nat} (h : okW ws = true) (hj : j < ws.length) : 1 ≤ ws.getD j 0 ∧ ws.getD j 0 ≤ 32 := by
  have := all_getD (d := (0 : Int)) (show ws.all _ = true from h) hj
  simpa using this
theorem getD_take_drop {b : List Int} {p m i : Nat} (hi : i < m) : ((b.drop p).take m).getD i 0 = b.getD (p + i) 0 := by
  unfold List.getD
  rw [List.getElem?_take, if_pos hi, List.getElem?_drop]
theorem take_at {b ws : List Int} {a : Int} {j : Nat} (h8 : a % 8 = 0) (h0 : 0 ≤ a) (ho : okW ws = true) (hw8 : ∀ w ∈ ws, w % 8 = 0) (hs : ws.sum ≤ 8 * b.length - a) (hj : j < ws.length) :
    ∃ p m : Nat, a + (ws.take j).sum = ((8 * p : Nat) : Int) ∧ ws.getD j 0 = ((8 * m : Nat) : Int) ∧ 1 ≤ m ∧ m ≤ 4 ∧ p + m ≤ b.length ∧ p = (a / 8).toNat + sumB (ws.take j) ∧ ((b.drop p).take m).length = m ∧ ∀ i, i < m → ((b.drop p).take m).getD i 0 = b.getD (p + i) 0 := by
  have h1 := okW_get ho hj
  have h2 := hw8 _ (mem_getD (d := (0 : Int)) hj)
  have h3 := sum_pre ho hj
  have h4 := sumB_sum (okW_pre (j := j) ho) fun w hw => hw8 w (List.mem_of_mem_take hw)
  refine ⟨(a / 8).toNat + sumB (ws.take j), (ws.getD j 0).toNat / 8, by omega, by omega, by omega, by omega, by omega, rfl, ?_, ?_⟩
  · rw [List.length_take, List.length_drop]; omega
  · exact fun i hi => getD_take_drop hi
def IT1 (ws : List Int) (i s : Int) : Prop := ∃ j : Nat, j ≤ ws.length ∧ i = j ∧ okW (ws.take j) = true ∧ s = (ws.take j).sum
def IT2 (b : List Int) (a : Int) (ws : List Int) (i : Int) (ns : List Int) (at_ : Int) : Prop := ∃ j : Nat, j ≤ ws.length ∧ i = j ∧ ns = rd (b.drop (a / 8).toNat) (ws.take j) ∧ at_ = a + (ws.take j).sum
def IT3 (l : List Int) (a i n at_ : Int) : Prop := ∃ k : Nat, k ≤ 8 * l.length ∧ i = k ∧ n = num l / 2 ^ (8 * l.length - k) ∧ at_ = a + k
/-- A bit is read. -/
theorem take_bit {l : List Int} (h : isB l) (hl : l.length ≤ 4) {k : Nat} (hk : k < 8 * l.length) {x : Int} (hx : x = l.getD (k / 8) 0) {sh : Nat} (hs : sh = 7 - k % 8) :
    IntKind.i64.wrap ↑(BitVec.ofInt IntKind.i64.bits (IntKind.i64.wrap (num l / 2 ^ (8 * l.length - k) * 2 ^ min 1 IntKind.i64.bits)) ||| BitVec.ofInt IntKind.i64.bits (IntKind.i64.wrap (IntKind.u8.wrap ↑(BitVec.ofInt IntKind.u8.bits (x.fdiv (2 ^ min sh IntKind.u8.bits)) &&& BitVec.ofInt IntKind.u8.bits 1).toNat))).toNat = num l / 2 ^ (8 * l.length - (k + 1)) := by
  subst hx hs
  have hb := h.getD (k / 8)
  have h2 := two_pos (7 - k % 8)
  have hr := rd_bit h hk
  rw [Int.fdiv_eq_ediv_of_nonneg _ (Int.le_of_lt (two_pos _)), show min (7 - k % 8) IntKind.u8.bits = 7 - k % 8 by simp [IntKind.bits]; omega]
  have h0 : 0 ≤ l.getD (k / 8) 0 / 2 ^ (7 - k % 8) := Int.ediv_nonneg hb.1 (Int.le_of_lt h2)
  have h1 : l.getD (k / 8) 0 / 2 ^ (7 - k % 8) ≤ l.getD (k / 8) 0 := Int.ediv_le_self _ hb.1
  have ht : bitOf (num l) (8 * l.length - (k + 1)) = 0 ∨ bitOf (num l) (8 * l.length - (k + 1)) = 1 := by unfold bitOf; omega
  change IntKind.i64.wrap ↑(BitVec.ofInt 64 (IntKind.i64.wrap (num l / 2 ^ (8 * l.length - k) * 2 ^ min 1 IntKind.i64.bits)) ||| BitVec.ofInt 64 (IntKind.i64.wrap (IntKind.u8.wrap ↑(BitVec.ofInt 8 (l.getD (k / 8) 0 / 2 ^ (7 - k % 8)) &&& BitVec.ofInt 8 1).toNat))).toNat = _
  rw [bv_and1 h0 (show _ < (2 : Int) ^ 8 by simp only [Int.reducePow]; omega) (by decide)]
  rw [show ((((l.getD (k / 8) 0 / 2 ^ (7 - k % 8)).toNat % 2 : Nat)) : Int) = l.getD (k / 8) 0 / 2 ^ (7 - k % 8) % 2 by omega, hr]
  have hh := half_step (num l) (8 * l.length - (k + 1))
  rw [show 8 * l.length - (k + 1) + 1 = 8 * l.length - k by omega] at hh
  have hN := num_lt h
  have hd : 0 ≤ num l / 2 ^ (8 * l.length - k) ∧ num l / 2 ^ (8 * l.length - k) < 4294967296 := by
    refine ⟨Int.ediv_nonneg hN.1 (Int.le_of_lt (two_pos _)), ?_⟩
    have := Int.ediv_le_self (2 ^ (8 * l.length - k)) hN.1
    have hp : (2 : Int) ^ (8 * l.length) ≤ 4294967296 := by
      have : l.length = 0 ∨ l.length = 1 ∨ l.length = 2 ∨ l.length = 3 ∨ l.length = 4 := by omega
      rcases this with e | e | e | e | e <;> rw [e] <;> simp
    have := Int.ediv_le_self (2 ^ (8 * l.length - k)) hN.1
    omega
  rw [hh]
  generalize bitOf (num l) (8 * l.length - (k + 1)) = t at *
  generalize num l / 2 ^ (8 * l.length - k) = n at *
  have e1 : IntKind.i64.wrap (n * 2 ^ min 1 IntKind.i64.bits) = 2 * n := by rw [show min 1 IntKind.i64.bits = 1 from rfl, wrap64 (by omega) (by omega)]; omega
  have e2 : IntKind.i64.wrap (IntKind.u8.wrap t) = t := by rcases ht with rfl | rfl <;> rfl
  rw [e1, e2, bv_or (by omega) (by omega) (show _ < (2 : Int) ^ 64 by simp only [Int.reducePow]; omega) (show _ < (2 : Int) ^ 64 by simp only [Int.reducePow]; omega)]
  have e3 : ((2 * n).toNat ||| t.toNat : Nat) = 2 ^ 1 * n.toNat + t.toNat := by
    rw [Nat.two_pow_add_eq_or_of_lt (by omega)]
    congr 1
    omega
  rw [e3, wrap64 (by omega) (by omega)]
  omega


end Go.Proofs.Ythbmllekbbfobaa.Sx
