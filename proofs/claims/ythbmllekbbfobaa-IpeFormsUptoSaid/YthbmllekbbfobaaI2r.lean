import Derived.Test.YthbmllekbbfobaaProg
import Derived.Test.YthbmllekbbfobaaSxU
import Derived.IntWalk
import Derived.Test.YthbmllekbbfobaaI1
/-! tlv, get -/
namespace Go.Proofs.Ythbmllekbbfobaa.Sx
open Go
set_option linter.unusedVariables false
set_option linter.unusedSimpArgs false
set_option maxRecDepth 100000

def leB : Nat → Int → List Int
  | 0, _ => []
  | f + 1, n => if n ≤ 0 then [] else n % 256 :: leB f (n / 256)
def numB (n : Int) : List Int := (leB 8 n).reverse
def INm (n0 n : Int) (b : List Int) : Prop := ∃ (k : Nat) (m : Int) (c : List Int), m = n ∧ c = b ∧ k ≤ 8 ∧ c.length ≤ k ∧ c ++ leB (8 - k) m = leB 8 n0 ∧ m < 2 ^ (63 - 8 * k)
theorem leB_nil {f : Nat} {n : Int} (h : n ≤ 0) : leB f n = [] := by
  cases f with
  | zero => rfl
  | succ f => rw [leB, if_pos h]
theorem num_step {m : Int} {k : Nat} (h0 : 0 < m) (hk : k ≤ 8) (h : m < 2 ^ (63 - 8 * k)) : k < 8 ∧ m / 256 < 2 ^ (63 - 8 * (k + 1)) := by
  have hc : k = 0 ∨ k = 1 ∨ k = 2 ∨ k = 3 ∨ k = 4 ∨ k = 5 ∨ k = 6 ∨ k = 7 ∨ k = 8 := by omega
  rcases hc with rfl | rfl | rfl | rfl | rfl | rfl | rfl | rfl | rfl <;> simp only [Nat.reduceMul, Nat.reduceSub, Nat.reduceAdd, Int.reducePow] at * <;> omega
theorem getD_set_eq {l : List Int} {i q : Nat} {x : Int} (hi : i < l.length) : (l.set i x).getD q 0 = if q = i then x else l.getD q 0 := by
  by_cases h : q = i
  · subst h; rw [if_pos rfl, List.getD_eq_getElem?_getD, List.getElem?_set_self hi]; rfl
  · rw [if_neg h, List.getD_eq_getElem?_getD, List.getElem?_set_ne (Ne.symm h), List.getD_eq_getElem?_getD]
theorem eq_of_getD {l r : List Int} (hl : l.length = r.length) (h : ∀ q, q < l.length → l.getD q 0 = r.getD q 0) : l = r := by
  refine List.ext_getElem hl fun q h1 h2 => ?_
  have := h q h1
  simpa [List.getD, h1, h2] using this
theorem rev_getD {b : List Int} {q : Nat} (h : q < b.length) : b.reverse.getD q 0 = b.getD (b.length - 1 - q) 0 := by
  rw [List.getD_eq_getElem?_getD, List.getElem?_reverse h, List.getD_eq_getElem?_getD]
theorem rev_step {b xs : List Int} {k : Nat} (hk : 2 * k + 1 < b.length) (hl : xs.length = b.length) (hg : ∀ q : Nat, q < b.length → xs.getD q 0 = if q < k ∨ b.length ≤ q + k then b.getD (b.length - 1 - q) 0 else b.getD q 0) :
    ∀ q : Nat, q < b.length → ((xs.set k (xs.getD (b.length - 1 - k) 0)).set (b.length - 1 - k) (xs.getD k 0)).getD q 0 = if q < k + 1 ∨ b.length ≤ q + (k + 1) then b.getD (b.length - 1 - q) 0 else b.getD q 0 := by
  intro q hq
  rw [getD_set_eq (by rw [List.length_set]; omega), getD_set_eq (by omega)]
  by_cases h1 : q = b.length - 1 - k
  · rw [if_pos h1, if_pos (.inr (by omega)), hg k (by omega), if_neg (by omega), h1]
    congr 1; omega
  · rw [if_neg h1]
    by_cases h2 : q = k
    · rw [if_pos h2, if_pos (.inl (by omega)), hg _ (by omega), if_neg (by omega), h2]
    · rw [if_neg h2, hg q hq]
      by_cases h3 : q < k ∨ b.length ≤ q + k
      · rw [if_pos h3, if_pos (by omega)]
      · rw [if_neg h3, if_neg (by omega)]
def IRv (b : List Int) (i j : Int) (xs' : List Int) : Prop := ∃ (k : Nat) (xs : List Int), xs = xs' ∧ 2 * k ≤ b.length + 1 ∧ i = k ∧ j = (b.length : Int) - 1 - k ∧ xs.length = b.length ∧ ∀ q : Nat, q < b.length → xs.getD q 0 = if q < k ∨ b.length ≤ q + k then b.getD (b.length - 1 - q) 0 else b.getD q 0
def consE (x : Elem) (r : List Elem × Int) : List Elem × Int := if r.2 = 0 then (x :: r.1, 0) else ([], r.2)
def preE (l : List Elem) (r : List Elem × Int) : List Elem × Int := if r.2 = 0 then (l ++ r.1, 0) else ([], r.2)
def getGo (d : Nat) (rec : List Int → List Elem × Int) : Nat → List Int → Int → List Elem × Int
  | 0, _, _ => ([], 0)
  | f + 1, b, last =>
    if b.length = 0 then ([], 0) else if d = 0 then ([], 15) else if b.getD 0 0 ≤ last then ([], 12) else if b.length < 2 ∨ (b.length : Int) - 2 < b.getD 1 0 then ([], 10) else
    if b.getD 0 0 < 128 then consE ⟨b.getD 0 0, (b.drop 2).take (b.getD 1 0).toNat, []⟩ (getGo d rec f (b.drop (2 + (b.getD 1 0).toNat)) (b.getD 0 0))
    else if (rec ((b.drop 2).take (b.getD 1 0).toNat)).2 = 0 then consE ⟨b.getD 0 0, [], (rec ((b.drop 2).take (b.getD 1 0).toNat)).1⟩ (getGo d rec f (b.drop (2 + (b.getD 1 0).toNat)) (b.getD 0 0))
    else ([], (rec ((b.drop 2).take (b.getD 1 0).toNat)).2)
def getP : Nat → List Int → List Elem × Int
  | 0, b => getGo 0 (fun _ => ([], 0)) b.length b 0
  | d + 1, b => getGo (d + 1) (getP d) b.length b 0
def recP : Nat → List Int → List Elem × Int
  | 0 => fun _ => ([], 0)
  | d + 1 => getP d
theorem getP_eq (d : Nat) (b : List Int) : getP d b = getGo d (recP d) b.length b 0 := by cases d <;> rfl
theorem preE_cons (l : List Elem) (x : Elem) (r : List Elem × Int) : preE l (consE x r) = preE (l ++ [x]) r := by
  unfold preE consE
  by_cases h : r.2 = 0 <;> simp [h]
theorem preE_err (l : List Elem) {e : Int} (h : e ≠ 0) : preE l ([], e) = ([], e) := by simp [preE, h]
theorem getGo_fuel {d : Nat} {rec : List Int → List Elem × Int} : ∀ (f g : Nat) (b : List Int) (last : Int), b.length ≤ f → b.length ≤ g → getGo d rec f b last = getGo d rec g b last
  | 0, 0, b, last, _, _ => rfl
  | 0, g + 1, b, last, h, _ => by rw [getGo, getGo, if_pos (by omega)]
  | f + 1, 0, b, last, _, h => by rw [getGo, getGo, if_pos (by omega)]
  | f + 1, g + 1, b, last, h, h' => by
    rw [getGo, getGo]
    by_cases h0 : b.length = 0
    · rw [if_pos h0, if_pos h0]
    · rw [if_neg h0, if_neg h0, getGo_fuel f g (b.drop (2 + (b.getD 1 0).toNat)) (b.getD 0 0) (by rw [List.length_drop]; omega) (by rw [List.length_drop]; omega)]
theorem getGo_norm {d : Nat} {rec : List Int → List Elem × Int} : ∀ (f : Nat) (b : List Int) (last : Int), (getGo d rec f b last).2 ≠ 0 → (getGo d rec f b last).1 = []
  | 0, b, last => fun h => absurd rfl h
  | f + 1, b, last => by
    rw [getGo]
    have hc : ∀ (x : Elem) (r : List Elem × Int), (consE x r).2 ≠ 0 → (consE x r).1 = [] := fun x r => by unfold consE; split <;> simp
    split
    · exact fun h => absurd rfl h
    · split
      · exact fun _ => rfl
      · split
        · exact fun _ => rfl
        · split
          · exact fun _ => rfl
          · split
            · exact hc _ _
            · split
              · exact hc _ _
              · exact fun _ => rfl
theorem getGo_preE {d : Nat} {rec : List Int → List Elem × Int} (f : Nat) (b : List Int) (last : Int) : getGo d rec f b last = preE [] (getGo d rec f b last) := by
  have h := getGo_norm (d := d) (rec := rec) f b last
  generalize getGo d rec f b last = r at *
  obtain ⟨l, e⟩ := r
  unfold preE
  by_cases he : e = 0
  · subst he; simp
  · rw [if_neg he]; simp at h; rw [h he]
theorem getGo_step {d : Nat} {rec : List Int → List Elem × Int} {c : List Int} {last : Int} (h0 : 0 < c.length) : getGo d rec c.length c last =
    (if d = 0 then ([], 15) else if c.getD 0 0 ≤ last then ([], 12) else if c.length < 2 ∨ (c.length : Int) - 2 < c.getD 1 0 then ([], 10) else
    if c.getD 0 0 < 128 then consE ⟨c.getD 0 0, (c.drop 2).take (c.getD 1 0).toNat, []⟩ (getGo d rec (c.drop (2 + (c.getD 1 0).toNat)).length (c.drop (2 + (c.getD 1 0).toNat)) (c.getD 0 0))
    else if (rec ((c.drop 2).take (c.getD 1 0).toNat)).2 = 0 then consE ⟨c.getD 0 0, [], (rec ((c.drop 2).take (c.getD 1 0).toNat)).1⟩ (getGo d rec (c.drop (2 + (c.getD 1 0).toNat)).length (c.drop (2 + (c.getD 1 0).toNat)) (c.getD 0 0))
    else ([], (rec ((c.drop 2).take (c.getD 1 0).toNat)).2)) := by
  obtain ⟨f, hf⟩ : ∃ f, c.length = f + 1 := ⟨c.length - 1, by omega⟩
  rw [show getGo d rec c.length c last = getGo d rec (f + 1) c last by rw [hf], getGo, if_neg (by omega),
    getGo_fuel f (c.drop (2 + (c.getD 1 0).toNat)).length (c.drop (2 + (c.getD 1 0).toNat)) (c.getD 0 0) (by rw [List.length_drop]; omega) (Nat.le_refl _)]
theorem part_eq {b c : List Int} {i n N : Nat} (hc : (b.drop i).take n = c) (hN : 2 + N ≤ n) : (b.drop (i + 2)).take N = (c.drop 2).take N := by
  rw [← hc, List.drop_take, List.drop_drop, List.take_take, Nat.min_eq_left (by omega)]
theorem rest_eq {b c : List Int} {i n N : Nat} (hc : (b.drop i).take n = c) : (b.drop (i + N)).take (n - N) = c.drop N := by
  rw [← hc, List.drop_take, List.drop_drop]
def IGt (d : Nat) (b0 b : List Int) (ci cn : Nat) (last : Int) (es : List Elem) : Prop := ∃ (i n : Nat) (l : Int) (e : List Elem) (c : List Int), i = ci ∧ n = cn ∧ l = last ∧ e = es ∧ (b.drop i).take n = c ∧ c.length = n ∧ (n = 0 ∨ i + n ≤ b.length) ∧ e.length ≤ b0.length - n ∧ n ≤ b0.length ∧ getP d b0 = preE e (getGo d (recP d) c.length c l) ∧ 0 ≤ l ∧ isB c


end Go.Proofs.Ythbmllekbbfobaa.Sx
