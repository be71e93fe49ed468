import Derived.Test.YthbmllekbbfobaaProg
import Derived.Test.YthbmllekbbfobaaSxU
import Derived.IntWalk
import Derived.Test.YthbmllekbbfobaaL3
/-! lists, Get -/
namespace Go.Proofs.Ythbmllekbbfobaa.Sx
open Go
set_option linter.unusedVariables false
set_option linter.unusedSimpArgs false
set_option maxRecDepth 100000

def itemAt (b : List Int) : Item := ⟨num (b.take 4), num ((b.drop 4).take 4), num ((b.drop 8).take 4), num ((b.drop 12).take 4), num ((b.drop 16).take 4)⟩
def itemsAt : Nat → List Int → List Item
  | 0, _ => []
  | k + 1, b => itemAt b :: itemsAt k (b.drop 20)
def headD (b : List Int) : List Int := takeN b 0 0 [32, 8, 8]
def cntD (b : List Int) : Nat := ((headD b).getD 1 0 + (headD b).getD 2 0).toNat
def getDE (b : List Int) : Int := if b.length < 6 then 10 else if (headD b).getD 0 0 < 1 ∨ 2147483648 ≤ (headD b).getD 0 0 ∨ 64 < (headD b).getD 1 0 ∨ 64 < (headD b).getD 2 0 then 12 else
  if (b.length : Int) < 6 + 20 * cntD b then 10 else if (b.length : Int) > 6 + 20 * cntD b then 14 else if (itemsAt (cntD b) (b.drop 6)).any badI then 12 else 0
def getD_ (b : List Int) : Delta := if getDE b = 0 then ⟨(headD b).getD 0 0, (itemsAt (cntD b) (b.drop 6)).take ((headD b).getD 1 0).toNat, (itemsAt (cntD b) (b.drop 6)).drop ((headD b).getD 1 0).toNat⟩ else ⟨0, [], []⟩
theorem headE_lt {b : List Int} (h : b.length < 6) : takeE b.length 0 0 [32, 8, 8] = 10 := by
  unfold takeE
  rw [if_neg (by simp), if_neg (by decide), if_pos (by simp; omega)]
theorem headE_ok {b : List Int} (h : 6 ≤ b.length) : takeE b.length 0 0 [32, 8, 8] = 0 := by
  unfold takeE
  rw [if_neg (by simp), if_neg (by decide), if_neg (by simp; omega)]
theorem headAt_ok {b : List Int} (h : 6 ≤ b.length) : takeAt b.length 0 0 [32, 8, 8] = 48 := by
  unfold takeAt
  rw [if_pos (headE_ok h)]; rfl
theorem one_byteL {l : List Int} {n : Nat} (h : n < l.length) : num ((l.drop n).take 1) = l.getD n 0 := by
  rw [drop_getD (d := (0 : Int)) h]; simp [num]
theorem headD_eq {b : List Int} (h : 6 ≤ b.length) : headD b = [num (b.take 4), b.getD 4 0, b.getD 5 0] := by
  unfold headD takeN
  rw [if_pos (headE_ok h)]
  show [num (b.take 4), num ((b.drop 4).take 1), num (((b.drop 4).drop 1).take 1)] = _
  rw [one_byteL (by omega), List.drop_drop, one_byteL (by omega)]
theorem head_rng {b : List Int} (hB : isB b) (h : 6 ≤ b.length) : (0 ≤ (headD b).getD 0 0 ∧ (headD b).getD 0 0 < 4294967296) ∧ (0 ≤ (headD b).getD 1 0 ∧ (headD b).getD 1 0 < 256) ∧ (0 ≤ (headD b).getD 2 0 ∧ (headD b).getD 2 0 < 256) ∧ (headD b).length = 3 := by
  rw [headD_eq h]
  have h4 := num_lt (hB.take 4)
  rw [List.length_take, Nat.min_eq_left (by omega)] at h4
  exact ⟨h4, hB.getD 4, hB.getD 5, rfl⟩
theorem cnt_ok {b : List Int} (hB : isB b) (h : 6 ≤ b.length) : IntKind.i64.wrap ((headD b).getD 1 0 + (headD b).getD 2 0) = cntD b ∧ (cntD b : Int) = (headD b).getD 1 0 + (headD b).getD 2 0 ∧ cntD b < 512 := by
  obtain ⟨_, h1, h2, _⟩ := head_rng hB h
  unfold cntD
  refine ⟨?_, by omega, by omega⟩
  rw [wrap64 (by omega) (by omega)]; omega
theorem t32 {b : List Int} {a : Int} {q : Nat} (ha : a = 8 * q) (h : q + 4 ≤ b.length) : takeE b.length a 0 [32] = 0 ∧ takeN b a 0 [32] = [num ((b.drop q).take 4)] ∧ takeAt b.length a 0 [32] = a + 32 := by
  have h1 : takeE b.length a 0 [32] = 0 := by
    unfold takeE
    rw [if_neg (by simp), if_neg (by decide), if_neg (by simp; omega)]
  refine ⟨h1, ?_, ?_⟩
  · unfold takeN
    rw [if_pos h1, show (a / 8).toNat = q by omega]; rfl
  · unfold takeAt
    rw [if_pos h1]; rfl
theorem five {b : List Int} {j : Nat} (hj : j < cntD b) (h : 160 * (cntD b : Int) ≤ 8 * (b.length : Int) - 48) :
    (takeE b.length (48 + 160 * (j : Int)) 0 [32] = 0 ∧ takeN b (48 + 160 * (j : Int)) 0 [32] = [num ((b.drop (6 + 20 * j)).take 4)] ∧ takeAt b.length (48 + 160 * (j : Int)) 0 [32] = 48 + 160 * (j : Int) + 32) ∧
    (takeE b.length (48 + 160 * (j : Int) + 32) 0 [32] = 0 ∧ takeN b (48 + 160 * (j : Int) + 32) 0 [32] = [num ((b.drop (10 + 20 * j)).take 4)] ∧ takeAt b.length (48 + 160 * (j : Int) + 32) 0 [32] = 48 + 160 * (j : Int) + 32 + 32) ∧
    (takeE b.length (48 + 160 * (j : Int) + 32 + 32) 0 [32] = 0 ∧ takeN b (48 + 160 * (j : Int) + 32 + 32) 0 [32] = [num ((b.drop (14 + 20 * j)).take 4)] ∧ takeAt b.length (48 + 160 * (j : Int) + 32 + 32) 0 [32] = 48 + 160 * (j : Int) + 32 + 32 + 32) ∧
    (takeE b.length (48 + 160 * (j : Int) + 32 + 32 + 32) 0 [32] = 0 ∧ takeN b (48 + 160 * (j : Int) + 32 + 32 + 32) 0 [32] = [num ((b.drop (18 + 20 * j)).take 4)] ∧ takeAt b.length (48 + 160 * (j : Int) + 32 + 32 + 32) 0 [32] = 48 + 160 * (j : Int) + 32 + 32 + 32 + 32) ∧
    (takeE b.length (48 + 160 * (j : Int) + 32 + 32 + 32 + 32) 0 [32] = 0 ∧ takeN b (48 + 160 * (j : Int) + 32 + 32 + 32 + 32) 0 [32] = [num ((b.drop (22 + 20 * j)).take 4)] ∧ takeAt b.length (48 + 160 * (j : Int) + 32 + 32 + 32 + 32) 0 [32] = 48 + 160 * (j : Int) + 32 + 32 + 32 + 32 + 32) :=
  ⟨t32 (by omega) (by omega), t32 (by omega) (by omega), t32 (by omega) (by omega), t32 (by omega) (by omega), t32 (by omega) (by omega)⟩
theorem itemsAt_length : ∀ (k : Nat) (b : List Int), (itemsAt k b).length = k
  | 0, _ => rfl
  | k + 1, b => by simp [itemsAt, itemsAt_length k]
theorem items_lt {n j : Nat} (h : j < n) (b : List Int) : j < (itemsAt j b ++ List.replicate (n - j) zI).length := by
  rw [List.length_append, itemsAt_length, List.length_replicate]; omega
theorem itemsAt_snoc : ∀ (k : Nat) (b : List Int), itemsAt (k + 1) b = itemsAt k b ++ [itemAt (b.drop (20 * k))]
  | 0, b => by simp [itemsAt]
  | k + 1, b => by
    have := itemsAt_snoc k (b.drop 20)
    rw [List.drop_drop, show 20 + 20 * k = 20 * (k + 1) by omega] at this
    rw [itemsAt, this]; rfl
theorem itemsAt_any : ∀ {n j : Nat} {b : List Int}, j < n → badI (itemAt (b.drop (20 * j))) = true → (itemsAt n b).any badI = true
  | 0, j, b, h, _ => by omega
  | n + 1, 0, b, _, hb => by simp only [itemsAt, List.any_cons]; rw [show itemAt b = itemAt (b.drop (20 * 0)) by simp, hb]; rfl
  | n + 1, j + 1, b, h, hb => by
    have := itemsAt_any (n := n) (j := j) (b := b.drop 20) (by omega) (by rw [List.drop_drop, show 20 + 20 * j = 20 * (j + 1) by omega]; exact hb)
    simp only [itemsAt, List.any_cons, this, Bool.or_true]
theorem itemAt_eq (b : List Int) (j : Nat) : itemAt ((b.drop 6).drop (20 * j)) = ⟨num ((b.drop (6 + 20 * j)).take 4), num ((b.drop (10 + 20 * j)).take 4), num ((b.drop (14 + 20 * j)).take 4), num ((b.drop (18 + 20 * j)).take 4), num ((b.drop (22 + 20 * j)).take 4)⟩ := by
  simp only [itemAt, List.drop_drop]
  rw [show 6 + 20 * j + 4 = 10 + 20 * j by omega, show 6 + 20 * j + 8 = 14 + 20 * j by omega, show 6 + 20 * j + 12 = 18 + 20 * j by omega, show 6 + 20 * j + 16 = 22 + 20 * j by omega]
theorem getD_set {α : Type} {l : List α} {j : Nat} {x d : α} (h : j < l.length) : (l.set j x).getD j d = x := by
  rw [List.getD_eq_getElem?_getD, List.getElem?_set_self h]; rfl
theorem set_zeros {α : Type} {l : List α} {n : Nat} {z x : α} (h : l.length < n) : (l ++ List.replicate (n - l.length) z).set l.length x = (l ++ [x]) ++ List.replicate (n - (l.length + 1)) z := by
  rw [List.set_append_right _ _ (Nat.le_refl _), Nat.sub_self, show n - l.length = n - (l.length + 1) + 1 by omega, List.replicate_succ, List.set_cons_zero, List.append_assoc]; rfl
theorem getDE_head {b : List Int} (h : 6 ≤ b.length) (hh : (headD b).getD 0 0 < 1 ∨ 2147483648 ≤ (headD b).getD 0 0 ∨ 64 < (headD b).getD 1 0 ∨ 64 < (headD b).getD 2 0) : getDE b = 12 := by
  unfold getDE; rw [if_neg (by omega), if_pos hh]
theorem getDE_at {b : List Int} {j : Nat} (h : 6 ≤ b.length) (h1 : 1 ≤ (headD b).getD 0 0) (h2 : (headD b).getD 0 0 < 2147483648) (h3 : (headD b).getD 1 0 ≤ 64) (h4 : (headD b).getD 2 0 ≤ 64) (hl : (b.length : Int) = 6 + 20 * cntD b)
    (hj : j < cntD b) (hb : badI (itemAt ((b.drop 6).drop (20 * j))) = true) : getDE b = 12 := by
  unfold getDE; rw [if_neg (by omega), if_neg (by omega), if_neg (by omega), if_neg (by omega), if_pos (itemsAt_any hj hb)]
theorem badI_big {x : Item} (h : 2147483648 < x.card ∨ 2147483648 < x.owner ∨ 2147483648 < x.id ∨ 2147483648 < x.number ∨ 2147483648 < x.amount) : badI x = true := by
  rw [← Bool.not_eq_false]
  intro hc
  have := badI_iff.1 hc
  omega
theorem badI_ok {b : List Int} {j : Nat} (hB : isB b) (h1 : num ((b.drop (6 + 20 * j)).take 4) ≤ 2147483648) (h2 : num ((b.drop (10 + 20 * j)).take 4) ≤ 2147483648) (h3 : num ((b.drop (14 + 20 * j)).take 4) ≤ 2147483648)
    (h4 : num ((b.drop (18 + 20 * j)).take 4) ≤ 2147483648) (h5 : num ((b.drop (22 + 20 * j)).take 4) ≤ 2147483648) : badI (itemAt ((b.drop 6).drop (20 * j))) = false := by
  rw [itemAt_eq]
  exact badI_iff.2 ⟨⟨(num_lt ((hB.drop _).take 4)).1, h1⟩, ⟨(num_lt ((hB.drop _).take 4)).1, h2⟩, ⟨(num_lt ((hB.drop _).take 4)).1, h3⟩, ⟨(num_lt ((hB.drop _).take 4)).1, h4⟩, ⟨(num_lt ((hB.drop _).take 4)).1, h5⟩⟩
theorem items_set {n j : Nat} {bs : List Int} (h : j < n) : (itemsAt j bs ++ List.replicate (n - j) zI).set j (itemAt (bs.drop (20 * j))) = itemsAt (j + 1) bs ++ List.replicate (n - (j + 1)) zI := by
  have := set_zeros (l := itemsAt j bs) (n := n) (z := zI) (x := itemAt (bs.drop (20 * j))) (by rw [itemsAt_length]; exact h)
  rw [itemsAt_length] at this
  rw [this, itemsAt_snoc]
def IGi (b : List Int) (n : Nat) (i : Int) (l : List Item) (a e : Int) : Prop := ∃ j : Nat, j ≤ n ∧ i = j ∧ l = itemsAt j (b.drop 6) ++ List.replicate (n - j) zI ∧ a = 48 + 160 * j ∧ e = 0 ∧ (itemsAt j (b.drop 6)).any badI = false


end Go.Proofs.Ythbmllekbbfobaa.Sx
