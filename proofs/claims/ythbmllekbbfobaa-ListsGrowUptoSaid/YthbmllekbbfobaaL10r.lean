import Derived.Test.YthbmllekbbfobaaProg
import Derived.Test.YthbmllekbbfobaaSxU
import Derived.IntWalk
import Derived.Test.YthbmllekbbfobaaL9
/-! lists, stable sorting -/
namespace Go.Proofs.Ythbmllekbbfobaa.Sx
open Go
set_option linter.unusedVariables false
set_option linter.unusedSimpArgs false
set_option maxRecDepth 100000

/-- Two rows together, the left one first where keys are alike. -/
def mg {α : Type} (key : α → Int) : List α → List α → List α
  | [], R => R
  | x :: L, [] => x :: L
  | x :: L, y :: R => if key x ≤ key y then x :: mg key L (y :: R) else y :: mg key (x :: L) R
termination_by L R => L.length + R.length
theorem mg_nil_l {α : Type} (key : α → Int) (R : List α) : mg key [] R = R := by simp [mg]
theorem mg_nil_r {α : Type} (key : α → Int) (L : List α) : mg key L [] = L := by cases L <;> simp [mg]
theorem mg_cons_le {α : Type} {key : α → Int} {x y : α} {L R : List α} (h : key x ≤ key y) : mg key (x :: L) (y :: R) = x :: mg key L (y :: R) := by rw [mg, if_pos h]
theorem mg_cons_lt {α : Type} {key : α → Int} {x y : α} {L R : List α} (h : key y < key x) : mg key (x :: L) (y :: R) = y :: mg key (x :: L) R := by rw [mg, if_neg (by omega)]
theorem mg_length {α : Type} (key : α → Int) : ∀ (n : Nat) (L R : List α), L.length + R.length = n → (mg key L R).length = n := by
  intro n
  induction n with
  | zero => intro L R h; cases L <;> cases R <;> simp [mg] at h ⊢
  | succ n ih =>
    intro L R h
    cases L with
    | nil => rw [mg_nil_l]; simpa using h
    | cons x L =>
      cases R with
      | nil => rw [mg_nil_r]; simpa using h
      | cons y R =>
        rcases Int.lt_or_le (key y) (key x) with hk | hk
        · rw [mg_cons_lt hk, List.length_cons, ih (x :: L) R (by simp at h ⊢; omega)]
        · rw [mg_cons_le hk, List.length_cons, ih L (y :: R) (by simp at h ⊢; omega)]
theorem mg_mem {α : Type} (key : α → Int) (z : α) : ∀ (n : Nat) (L R : List α), L.length + R.length = n → (z ∈ mg key L R ↔ z ∈ L ∨ z ∈ R) := by
  intro n
  induction n with
  | zero => intro L R h; cases L <;> cases R <;> simp [mg] at h ⊢
  | succ n ih =>
    intro L R h
    cases L with
    | nil => simp [mg_nil_l]
    | cons x L =>
      cases R with
      | nil => simp [mg_nil_r]
      | cons y R =>
        rcases Int.lt_or_le (key y) (key x) with hk | hk
        · rw [mg_cons_lt hk, List.mem_cons, ih (x :: L) R (by simp at h ⊢; omega)]; simp only [List.mem_cons]; grind
        · rw [mg_cons_le hk, List.mem_cons, ih L (y :: R) (by simp at h ⊢; omega)]; simp only [List.mem_cons]; grind
theorem mg_split {α : Type} {key : α → Int} : ∀ (n : Nat) (L1 R1 L2 R2 : List α), L1.length + R1.length = n → (∀ x ∈ L1, ∀ y ∈ R2, key x ≤ key y) → (∀ y ∈ R1, ∀ x ∈ L2, key y < key x) → mg key (L1 ++ L2) (R1 ++ R2) = mg key L1 R1 ++ mg key L2 R2 := by
  intro n
  induction n with
  | zero => intro L1 R1 L2 R2 h _ _; cases L1 <;> cases R1 <;> simp [mg] at h ⊢
  | succ n ih =>
    intro L1 R1 L2 R2 h h1 h2
    cases L1 with
    | nil =>
      cases R1 with
      | nil => simp at h
      | cons y R1 =>
        have := ih [] R1 L2 R2 (by simpa using h) (by simp) (fun y' hy => h2 y' (by simp [hy]))
        rw [mg_nil_l, List.nil_append] at this ⊢
        cases L2 with
        | nil => simp [mg_nil_l]
        | cons x L2 => rw [List.cons_append, mg_cons_lt (h2 y (by simp) x (by simp)), this]; rfl
    | cons x L1 =>
      cases R1 with
      | nil =>
        have := ih L1 [] L2 R2 (by simpa using h) (fun x' hx => h1 x' (by simp [hx])) (by simp)
        rw [mg_nil_r, List.nil_append] at this ⊢
        cases R2 with
        | nil => simp [mg_nil_r]
        | cons y R2 => rw [List.cons_append, mg_cons_le (h1 x (by simp) y (by simp)), this]; rfl
      | cons y R1 =>
        simp only [List.cons_append]
        rcases Int.lt_or_le (key y) (key x) with hk | hk
        · rw [mg_cons_lt hk, mg_cons_lt hk]
          have := ih (x :: L1) R1 L2 R2 (by simp at h ⊢; omega) h1 (fun y' hy => h2 y' (by simp [hy]))
          rw [List.cons_append] at this
          rw [this]; rfl
        · rw [mg_cons_le hk, mg_cons_le hk]
          have := ih L1 (y :: R1) L2 R2 (by simp at h ⊢; omega) (fun x' hx => h1 x' (by simp [hx])) h2
          rw [List.cons_append] at this
          rw [this]; rfl
theorem mg_left {α : Type} {key : α → Int} {x : α} {R1 R2 : List α} (h1 : ∀ y ∈ R1, key y < key x) (h2 : ∀ y ∈ R2, key x ≤ key y) : mg key [x] (R1 ++ R2) = R1 ++ x :: R2 := by
  have a := mg_split (key := key) _ [] R1 [x] R2 rfl (by simp) (fun y hy z hz => by simp at hz; subst hz; exact h1 y hy)
  have b := mg_split (key := key) _ [x] [] [] R2 rfl (fun z hz y hy => by simp at hz; subst hz; exact h2 y hy) (by simp)
  simp only [List.nil_append, List.append_nil, mg_nil_l, mg_nil_r] at a b
  rw [a, b]; rfl
theorem mg_right {α : Type} {key : α → Int} {y : α} {L1 L2 : List α} (h1 : ∀ x ∈ L1, key x ≤ key y) (h2 : ∀ x ∈ L2, key y < key x) : mg key (L1 ++ L2) [y] = L1 ++ y :: L2 := by
  have a := mg_split (key := key) _ L1 [] L2 [y] rfl (fun x hx z hz => by simp at hz; subst hz; exact h1 x hx) (by simp)
  have b := mg_split (key := key) _ [] [y] L2 [] rfl (by simp) (fun z hz x hx => by simp at hz; subst hz; exact h2 x hx)
  simp only [List.nil_append, List.append_nil, mg_nil_l, mg_nil_r] at a b
  rw [a, b]; rfl
theorem mg_assoc {α : Type} (key : α → Int) : ∀ (n : Nat) (A B C : List α), A.length + B.length + C.length = n → mg key (mg key A B) C = mg key A (mg key B C) := by
  intro n
  induction n with
  | zero => intro A B C h; cases A <;> cases B <;> cases C <;> simp [mg] at h ⊢
  | succ n ih =>
    intro A B C h
    cases A with
    | nil => rw [mg_nil_l, mg_nil_l]
    | cons x A =>
      cases B with
      | nil => rw [mg_nil_r, mg_nil_l]
      | cons y B =>
        cases C with
        | nil => rw [mg_nil_r, mg_nil_r]
        | cons z C =>
          simp only [List.length_cons] at h
          rcases Int.lt_or_le (key y) (key x) with hk | hk
          · rw [mg_cons_lt hk]
            rcases Int.lt_or_le (key z) (key y) with hz | hz
            · rw [mg_cons_lt hz, mg_cons_lt hz, mg_cons_lt (by omega)]
              have := ih (x :: A) (y :: B) C (by simp; omega)
              rw [mg_cons_lt hk] at this
              rw [this]
            · rw [mg_cons_le hz, mg_cons_le hz, mg_cons_lt hk]
              rw [ih (x :: A) B (z :: C) (by simp; omega)]
          · rw [mg_cons_le hk]
            rcases Int.lt_or_le (key z) (key x) with hz | hz
            · rw [mg_cons_lt hz, mg_cons_lt (by omega : key z < key y), mg_cons_lt hz]
              have := ih (x :: A) (y :: B) C (by simp; omega)
              rw [mg_cons_le hk] at this
              rw [this]
            · rw [mg_cons_le hz, ih A (y :: B) (z :: C) (by simp; omega)]
              rcases Int.lt_or_le (key z) (key y) with hw | hw
              · rw [mg_cons_lt hw, mg_cons_le hz]
              · rw [mg_cons_le hw, mg_cons_le hk]
/-- Rising keys. -/
def KS {α : Type} (key : α → Int) (l : List α) : Prop := l.Pairwise fun x y => key x ≤ key y
theorem mg_sorted {α : Type} {key : α → Int} : ∀ (n : Nat) (L R : List α), L.length + R.length = n → KS key L → KS key R → KS key (mg key L R) := by
  intro n
  induction n with
  | zero => intro L R h _ _; cases L <;> cases R <;> simp [mg, KS] at h ⊢
  | succ n ih =>
    intro L R h hL hR
    cases L with
    | nil => rwa [mg_nil_l]
    | cons x L =>
      cases R with
      | nil => rwa [mg_nil_r]
      | cons y R =>
        obtain ⟨hx, hL'⟩ := List.pairwise_cons.1 hL
        obtain ⟨hy, hR'⟩ := List.pairwise_cons.1 hR
        rcases Int.lt_or_le (key y) (key x) with hk | hk
        · rw [mg_cons_lt hk]
          refine List.pairwise_cons.2 ⟨fun z hz => ?_, ih (x :: L) R (by simp at h ⊢; omega) hL hR'⟩
          rcases (mg_mem key z _ (x :: L) R rfl).1 hz with hz | hz
          · rcases List.mem_cons.1 hz with rfl | hz
            · omega
            · have := hx z hz; omega
          · exact hy z hz
        · rw [mg_cons_le hk]
          refine List.pairwise_cons.2 ⟨fun z hz => ?_, ih L (y :: R) (by simp at h ⊢; omega) hL' hR⟩
          rcases (mg_mem key z _ L (y :: R) rfl).1 hz with hz | hz
          · exact hx z hz
          · rcases List.mem_cons.1 hz with rfl | hz
            · exact hk
            · have := hy z hz; omega
/-- Sorted, those with the same key in the order in which they were. -/
def stS {α : Type} (key : α → Int) (l : List α) : List α := l.foldl (fun acc x => mg key acc [x]) []
theorem stS_snoc {α : Type} (key : α → Int) (l : List α) (x : α) : stS key (l ++ [x]) = mg key (stS key l) [x] := by simp [stS]
theorem snoc_ind {α : Type} {p : List α → Prop} (h0 : p []) (h1 : ∀ l x, p l → p (l ++ [x])) : ∀ l, p l := by
  intro l
  have : ∀ n (l : List α), l.length = n → p l := by
    intro n
    induction n with
    | zero => intro l h; cases l with
      | nil => exact h0
      | cons => simp at h
    | succ n ih =>
      intro l h
      have hne : l ≠ [] := by intro e; subst e; simp at h
      rw [← List.dropLast_concat_getLast hne]
      exact h1 _ _ (ih _ (by simp; omega))
  exact this _ l rfl
theorem stS_sorted {α : Type} (key : α → Int) : ∀ l : List α, KS key (stS key l) :=
  snoc_ind List.Pairwise.nil fun l x ih => by rw [stS_snoc]; exact mg_sorted _ _ _ rfl ih (List.pairwise_singleton _ _)
theorem stS_length {α : Type} (key : α → Int) : ∀ l : List α, (stS key l).length = l.length :=
  snoc_ind rfl fun l x ih => by rw [stS_snoc, mg_length key _ _ _ rfl]; simp [ih]
theorem stS_mem {α : Type} (key : α → Int) (z : α) : ∀ l : List α, z ∈ stS key l ↔ z ∈ l :=
  snoc_ind Iff.rfl fun l x ih => by rw [stS_snoc, mg_mem key z _ _ _ rfl, ih]; simp
theorem stS_append {α : Type} (key : α → Int) (A : List α) : ∀ B : List α, mg key (stS key A) (stS key B) = stS key (A ++ B) :=
  snoc_ind (by rw [List.append_nil]; exact mg_nil_r _ _) fun B x ih => by rw [stS_snoc, ← mg_assoc key _ _ _ _ rfl, ih, ← List.append_assoc, stS_snoc]
/-! Rows of which elements change places. -/
def seg {α : Type} (l : List α) (a b : Nat) : List α := (l.drop a).take (b - a)
def permL {α : Type} (z : α) (f : Nat → Nat) (l : List α) : List α := (List.range l.length).map fun p => l.getD (f p) z
theorem permL_length {α : Type} {z : α} {f : Nat → Nat} {l : List α} : (permL z f l).length = l.length := by simp [permL]
theorem permL_get {α : Type} {z : α} {f : Nat → Nat} {l : List α} {p : Nat} (h : p < l.length) : (permL z f l).getD p z = l.getD (f p) z := by
  simp [permL, List.getD_eq_getElem?_getD, h]
theorem ext_get {α : Type} {z : α} {l r : List α} (hl : l.length = r.length) (h : ∀ p, p < l.length → l.getD p z = r.getD p z) : l = r := by
  refine List.ext_getElem hl fun p h1 h2 => ?_
  have := h p h1
  rwa [List.getD_eq_getElem?_getD, List.getD_eq_getElem?_getD, List.getElem?_eq_getElem h1, List.getElem?_eq_getElem h2] at this
theorem permL_of {α : Type} {z : α} {f : Nat → Nat} {l r : List α} (hl : r.length = l.length) (h : ∀ p, p < l.length → r.getD p z = l.getD (f p) z) : r = permL z f l :=
  ext_get (z := z) (by rw [permL_length, hl]) fun p hp => by rw [permL_get (by omega)]; exact h p (by omega)
theorem getD_set' {α : Type} {z v : α} {l : List α} {i p : Nat} (h : i < l.length) : (l.set i v).getD p z = if p = i then v else l.getD p z := by
  rw [List.getD_eq_getElem?_getD, List.getElem?_set, List.getD_eq_getElem?_getD]
  by_cases e : i = p
  · subst e; simp [h]
  · simp [e, Ne.symm e, fun h => e (Eq.symm h)]
def swpI (a b n p : Nat) : Nat := if a ≤ p ∧ p < a + n then p + (b - a) else if b ≤ p ∧ p < b + n then p - (b - a) else p
def rotI (a m b p : Nat) : Nat := if a ≤ p ∧ p < a + (b - m) then p + (m - a) else if a + (b - m) ≤ p ∧ p < b then p - (b - m) else p
theorem permL_comp {α : Type} {z : α} {f g : Nat → Nat} {l : List α} (hg : ∀ p, p < l.length → g p < l.length) : permL z g (permL z f l) = permL z (fun p => f (g p)) l := by
  refine permL_of (by rw [permL_length, permL_length]) fun p hp => ?_
  rw [permL_get (by rw [permL_length]; exact hp), permL_get (hg p hp)]
theorem permL_congr {α : Type} {z : α} {f g : Nat → Nat} {l : List α} (h : ∀ p, p < l.length → f p = g p) : permL z f l = permL z g l :=
  permL_of (by rw [permL_length]) fun p hp => by rw [permL_get hp, h p hp]
theorem permL_id {α : Type} {z : α} {l : List α} : permL z (fun p => p) l = l := (permL_of rfl fun _ _ => rfl).symm
theorem getD_app {α : Type} {z : α} {l r : List α} {p : Nat} : (l ++ r).getD p z = if p < l.length then l.getD p z else r.getD (p - l.length) z := by
  rw [List.getD_eq_getElem?_getD, List.getElem?_append]
  split <;> rw [List.getD_eq_getElem?_getD]
theorem getD_tk {α : Type} {z : α} {l : List α} {n p : Nat} : (l.take n).getD p z = if p < n then l.getD p z else z := by
  rw [List.getD_eq_getElem?_getD, List.getElem?_take]
  split <;> simp [List.getD_eq_getElem?_getD]
theorem getD_dr {α : Type} {z : α} {l : List α} {n p : Nat} : (l.drop n).getD p z = l.getD (n + p) z := by
  rw [List.getD_eq_getElem?_getD, List.getElem?_drop, List.getD_eq_getElem?_getD]
theorem seg_get {α : Type} {z : α} {l : List α} {a b p : Nat} : (seg l a b).getD p z = if p < b - a then l.getD (a + p) z else z := by rw [seg, getD_tk, getD_dr]
theorem seg_length {α : Type} {l : List α} {a b : Nat} (h : b ≤ l.length) : (seg l a b).length = b - a := by simp [seg]; omega
/-- A row in which a part is another one. -/
def putS {α : Type} (l : List α) (a b : Nat) (x : List α) : List α := l.take a ++ x ++ l.drop b
theorem putS_length {α : Type} {l x : List α} {a b : Nat} (h : a ≤ b) (hb : b ≤ l.length) (hx : x.length = b - a) : (putS l a b x).length = l.length := by simp [putS, hx]; omega
theorem putS_get {α : Type} {z : α} {l x : List α} {a b p : Nat} (h : a ≤ b) (hb : b ≤ l.length) (hx : x.length = b - a) : (putS l a b x).getD p z = if p < a then l.getD p z else if p < b then x.getD (p - a) z else l.getD p z := by
  unfold putS
  have h1 : (l.take a).length = a := by simp; omega
  rw [List.append_assoc, getD_app, h1, getD_tk, getD_app, hx, getD_dr]
  by_cases e1 : p < a
  · simp [e1]
  · by_cases e2 : p < b
    · rw [if_neg e1, if_pos (by omega), if_neg e1, if_pos e2]
    · rw [if_neg e1, if_neg (by omega), if_neg e1, if_neg e2, show b + (p - a - (b - a)) = p by omega]
theorem rot_put {α : Type} {z : α} {l : List α} {a m b : Nat} (h1 : a ≤ m) (h2 : m ≤ b) (hb : b ≤ l.length) : permL z (rotI a m b) l = putS l a b (seg l m b ++ seg l a m) := by
  have hx : (seg l m b ++ seg l a m).length = b - a := by rw [List.length_append, seg_length hb, seg_length (by omega)]; omega
  refine ext_get (z := z) (by rw [permL_length, putS_length (by omega) hb hx]) fun p hp => ?_
  rw [permL_length] at hp
  rw [permL_get hp, putS_get (by omega) hb hx, getD_app, seg_length hb, seg_get, seg_get]
  unfold rotI
  by_cases e1 : p < a
  · rw [if_pos e1, if_neg (by omega), if_neg (by omega)]
  · rw [if_neg e1]
    by_cases e2 : p < b
    · rw [if_pos e2]
      by_cases e3 : p < a + (b - m)
      · rw [if_pos (by omega), if_pos (by omega), if_pos (by omega), show m + (p - a) = p + (m - a) by omega]
      · rw [if_neg (by omega), if_pos (by omega), if_neg (by omega), if_pos (by omega), show a + (p - a - (b - m)) = p - (b - m) by omega]
    · rw [if_neg e2, if_neg (by omega), if_neg (by omega)]
def PI {α : Type} (z : α) (f : Nat → Nat) (l xs : List α) : Prop := xs.length = l.length ∧ ∀ p, p < l.length → xs.getD p z = l.getD (f p) z
theorem PI.eq {α : Type} {z : α} {f : Nat → Nat} {l xs : List α} (h : PI z f l xs) : xs = permL z f l := permL_of h.1 h.2
theorem PI.start {α : Type} {z : α} {f : Nat → Nat} {l : List α} (h : ∀ p, f p = p) : PI z f l l := ⟨rfl, fun p _ => by rw [h]⟩
theorem PI.swap {α : Type} {z : α} {f g : Nat → Nat} {l xs : List α} {i j : Nat} (h : PI z f l xs) (hi : i < l.length) (hj : j < l.length) (h1 : ∀ p, p < l.length → g p = if p = j then f i else if p = i then f j else f p) :
    PI z g l ((xs.set i (xs.getD j z)).set j (xs.getD i z)) := by
  refine ⟨by simp [h.1], fun p hp => ?_⟩
  rw [getD_set' (by simp [h.1, hj]), getD_set' (by simp [h.1, hi]), h1 p hp]
  split
  · rw [h.2 i hi]
  · split
    · rw [h.2 j hj]
    · rw [h.2 p hp]
theorem rot_up {α : Type} {z : α} {l xs : List α} {a k : Nat} (h : PI z (rotI a (a + 1) (k + 1)) l xs) (hk : a ≤ k) (hl : k + 1 < l.length) : PI z (rotI a (a + 1) (k + 2)) l ((xs.set k (xs.getD (k + 1) z)).set (k + 1) (xs.getD k z)) := by
  refine h.swap (by omega) hl fun p _ => ?_
  unfold rotI
  (repeat' split) <;> omega
theorem rot_down {α : Type} {z : α} {l xs : List α} {k m : Nat} (h : PI z (rotI (k + 1) m (m + 1)) l xs) (hk : k + 1 ≤ m) (hl : m < l.length) : PI z (rotI k m (m + 1)) l ((xs.set (k + 1) (xs.getD k z)).set k (xs.getD (k + 1) z)) := by
  refine h.swap (by omega) (by omega) fun p _ => ?_
  unfold rotI
  (repeat' split) <;> omega
theorem swap_sw {α : Type} {z : α} {l xs : List α} {a b k : Nat} (h : PI z (swpI a b k) l xs) (hk : a + k < b) (hl : b + k < l.length) : PI z (swpI a b (k + 1)) l ((xs.set (a + k) (xs.getD (b + k) z)).set (b + k) (xs.getD (a + k) z)) := by
  refine h.swap (by omega) hl fun p _ => ?_
  unfold swpI
  (repeat' split) <;> omega
theorem rotI_lt {a m b p n : Nat} (h1 : a ≤ m) (h2 : m ≤ b) (hb : b ≤ n) (hp : p < n) : rotI a m b p < n := by unfold rotI; split <;> (try split) <;> omega
theorem swpI_lt {a b k p n : Nat} (h1 : a + k ≤ b) (hb : b + k ≤ n) (hp : p < n) : swpI a b k p < n := by unfold swpI; split <;> (try split) <;> omega
theorem rot_more {α : Type} {z : α} {xs : List α} {m i j : Nat} (h : j < i) (hi : i ≤ m) (hl : m + j ≤ xs.length) : permL z (rotI (m - (i - j)) m (m + j)) (permL z (swpI (m - i) m j) xs) = permL z (rotI (m - i) m (m + j)) xs := by
  rw [permL_comp fun p hp => rotI_lt (by omega) (by omega) hl hp]
  refine permL_congr fun p _ => ?_
  unfold rotI swpI
  (repeat' split) <;> omega
theorem rot_less {α : Type} {z : α} {xs : List α} {m i j : Nat} (h : i < j) (hi : i ≤ m) (hl : m + j ≤ xs.length) : permL z (rotI (m - i) m (m + (j - i))) (permL z (swpI (m - i) (m + j - i) i) xs) = permL z (rotI (m - i) m (m + j)) xs := by
  rw [permL_comp fun p hp => rotI_lt (by omega) (by omega) (by omega) hp]
  refine permL_congr fun p _ => ?_
  unfold rotI swpI
  (repeat' split) <;> omega
theorem rot_same {α : Type} {z : α} {xs : List α} {m i : Nat} (hi : i ≤ m) : permL z (swpI (m - i) m i) xs = permL z (rotI (m - i) m (m + i)) xs := by
  refine permL_congr fun p _ => ?_
  unfold rotI swpI
  (repeat' split) <;> omega
theorem seg_at {α : Type} {A X B : List α} {n k : Nat} (hn : n = A.length) (hk : k = n + X.length) : seg (A ++ (X ++ B)) n k = X := by
  subst hn; subst hk
  rw [seg, List.drop_left, show A.length + X.length - A.length = X.length by omega, List.take_left]
theorem putS_at {α : Type} {A X B Y : List α} {n k : Nat} (hn : n = A.length) (hk : k = n + X.length) : putS (A ++ (X ++ B)) n k Y = A ++ (Y ++ B) := by
  subst hn; subst hk
  rw [putS, List.take_left, ← List.append_assoc, ← List.length_append, List.drop_left, List.append_assoc]
theorem parts3 {α : Type} (l : List α) {a b : Nat} (h : a ≤ b) : l = l.take a ++ (seg l a b ++ l.drop b) := by
  rw [seg, show l.drop b = (l.drop a).drop (b - a) by rw [List.drop_drop]; congr 1; omega, List.take_append_drop, List.take_append_drop]
theorem seg_parts {α : Type} (l : List α) {a b c : Nat} (h1 : a ≤ b) (h2 : b ≤ c) : seg l a c = seg l a b ++ seg l b c := by
  unfold seg
  rw [show l.drop b = (l.drop a).drop (b - a) by rw [List.drop_drop]; congr 1; omega, show c - a = (b - a) + (c - b) by omega, List.take_add]
theorem mem_seg {α : Type} {z x : α} {l : List α} {a b : Nat} (hb : b ≤ l.length) (h : x ∈ seg l a b) : ∃ c, a ≤ c ∧ c < b ∧ x = l.getD c z := by
  obtain ⟨i, hi, rfl⟩ := List.getElem_of_mem h
  have hi' : i < b - a := by rcases Nat.le_total a b with h | h <;> simp [seg] at hi <;> omega
  refine ⟨a + i, by omega, by omega, ?_⟩
  have := seg_get (z := z) (l := l) (a := a) (b := b) (p := i)
  rw [if_pos hi'] at this
  rw [← this, List.getD_eq_getElem?_getD, List.getElem?_eq_getElem hi]; rfl
/-- Keys rise from u to v. -/
def Mono {α : Type} (z : α) (key : α → Int) (l : List α) (u v : Nat) : Prop := ∀ c d, u ≤ c → c ≤ d → d < v → key (l.getD c z) ≤ key (l.getD d z)
theorem mono_ks {α : Type} {z : α} {key : α → Int} {l : List α} {u v : Nat} (hv : v ≤ l.length) : KS key (seg l u v) ↔ Mono z key l u v := by
  have hl : u ≤ v → (seg l u v).length = v - u := fun _ => seg_length hv
  constructor
  · intro h c d h1 h2 h3
    rcases Nat.lt_or_ge c d with hlt | hge
    · have := List.pairwise_iff_getElem.1 h (c - u) (d - u) (by rw [hl (by omega)]; omega) (by rw [hl (by omega)]; omega) (by omega)
      have g := fun q => seg_get (z := z) (l := l) (a := u) (b := v) (p := q)
      have e : ∀ q (hq : q < (seg l u v).length), (seg l u v)[q] = l.getD (u + q) z := fun q hq => by
        have := g q
        rw [if_pos (by rw [hl (by omega)] at hq; exact hq), List.getD_eq_getElem?_getD, List.getElem?_eq_getElem hq] at this
        exact this
      rw [e, e, show u + (c - u) = c by omega, show u + (d - u) = d by omega] at this
      exact this
    · rw [show c = d by omega]; exact Int.le_refl _
  · intro h
    refine List.pairwise_iff_getElem.2 fun i j hi hj hij => ?_
    have hj' : j < v - u := by rcases Nat.le_total u v with h | h <;> simp [seg] at hj <;> omega
    have e : ∀ q (hq : q < (seg l u v).length), (seg l u v)[q] = l.getD (u + q) z := fun q hq => by
      have hq' : q < v - u := by rcases Nat.le_total u v with h | h <;> simp [seg] at hq <;> omega
      have := seg_get (z := z) (l := l) (a := u) (b := v) (p := q)
      rw [if_pos hq', List.getD_eq_getElem?_getD, List.getElem?_eq_getElem hq] at this
      exact this
    rw [e, e]
    exact h (u + i) (u + j) (by omega) (by omega) (by omega)
/-- What symMerge makes. -/
def mrg {α : Type} (key : α → Int) (l : List α) (a m b : Nat) : List α := putS l a b (mg key (seg l a m) (seg l m b))
theorem mrg_step {α : Type} {z : α} {key : α → Int} {l : List α} {a m b s e d : Nat} (h1 : a ≤ s) (h2 : s ≤ m) (h3 : m ≤ e) (h4 : e ≤ b) (hb : b ≤ l.length) (hd : s + e = d + m)
    (hx : ∀ c c', a ≤ c → c < s → e ≤ c' → c' < b → key (l.getD c z) ≤ key (l.getD c' z)) (hy : ∀ c c', m ≤ c → c < e → s ≤ c' → c' < m → key (l.getD c z) < key (l.getD c' z)) :
    mrg key (mrg key (permL z (rotI s m e) l) a s d) d e b = mrg key l a m b := by
  have l1 : (l.take a).length = a := by simp; omega
  have l2 : (seg l a s).length = s - a := seg_length (by omega)
  have l3 : (seg l s m).length = m - s := seg_length (by omega)
  have l4 : (seg l m e).length = e - m := seg_length (by omega)
  have l5 : (seg l e b).length = b - e := seg_length hb
  have lm : (mg key (seg l a s) (seg l m e)).length = d - a := by rw [mg_length key _ _ _ rfl, l2, l4]; omega
  have p0 : l = l.take a ++ (seg l a s ++ (seg l s m ++ (seg l m e ++ (seg l e b ++ l.drop b)))) := by
    have := parts3 l (a := a) (b := b) (by omega)
    rw [seg_parts l (a := a) (b := s) (c := b) (by omega) (by omega), seg_parts l (a := s) (b := m) (c := b) (by omega) (by omega), seg_parts l (a := m) (b := e) (c := b) (by omega) (by omega)] at this
    simpa only [List.append_assoc] using this
  generalize hA : l.take a = A at *
  generalize hL1 : seg l a s = L1 at *
  generalize hL2 : seg l s m = L2 at *
  generalize hR1 : seg l m e = R1 at *
  generalize hR2 : seg l e b = R2 at *
  generalize hB : l.drop b = B at *
  have q1 : permL z (rotI s m e) l = A ++ ((L1 ++ R1) ++ (L2 ++ (R2 ++ B))) := by
    rw [rot_put h2 h3 (by omega), hR1, hL2]
    have : l = (A ++ L1) ++ ((L2 ++ R1) ++ (R2 ++ B)) := by simpa only [List.append_assoc] using p0
    rw [this, putS_at (by rw [List.length_append]; omega) (by rw [List.length_append]; omega)]
    simp only [List.append_assoc]
  have q2 : mrg key (permL z (rotI s m e) l) a s d = (A ++ mg key L1 R1) ++ ((L2 ++ R2) ++ B) := by
    rw [mrg, q1]
    have e1 : seg (A ++ ((L1 ++ R1) ++ (L2 ++ (R2 ++ B)))) a s = L1 := by rw [List.append_assoc, seg_at (by omega) (by omega)]
    have e2 : seg (A ++ ((L1 ++ R1) ++ (L2 ++ (R2 ++ B)))) s d = R1 := by
      rw [show A ++ ((L1 ++ R1) ++ (L2 ++ (R2 ++ B))) = (A ++ L1) ++ (R1 ++ (L2 ++ (R2 ++ B))) by simp only [List.append_assoc], seg_at (by rw [List.length_append]; omega) (by omega)]
    rw [e1, e2, putS_at (by omega) (by rw [List.length_append]; omega)]
    simp only [List.append_assoc]
  rw [q2, mrg]
  have e1 : seg ((A ++ mg key L1 R1) ++ ((L2 ++ R2) ++ B)) d e = L2 := by rw [List.append_assoc L2, seg_at (by rw [List.length_append, lm]; omega) (by omega)]
  have e2 : seg ((A ++ mg key L1 R1) ++ ((L2 ++ R2) ++ B)) e b = R2 := by
    rw [show (A ++ mg key L1 R1) ++ ((L2 ++ R2) ++ B) = ((A ++ mg key L1 R1) ++ L2) ++ (R2 ++ B) by simp only [List.append_assoc], seg_at (by rw [List.length_append, List.length_append, lm]; omega) (by omega)]
  rw [e1, e2, putS_at (by rw [List.length_append, lm]; omega) (by rw [List.length_append]; omega), mrg]
  have s1 : seg l a m = L1 ++ L2 := by rw [seg_parts l h1 h2, hL1, hL2]
  have s2 : seg l m b = R1 ++ R2 := by rw [seg_parts l h3 h4, hR1, hR2]
  rw [s1, s2, mg_split (key := key) _ L1 R1 L2 R2 rfl ?_ ?_]
  · have : l = A ++ ((L1 ++ (L2 ++ (R1 ++ R2))) ++ B) := by simpa only [List.append_assoc] using p0
    conv => rhs; rw [this]
    rw [putS_at (by omega) (by simp only [List.length_append]; omega)]
    simp only [List.append_assoc]
  · intro x hx' y hy'
    rw [← hL1] at hx'
    rw [← hR2] at hy'
    obtain ⟨c, c1, c2, rfl⟩ := mem_seg (z := z) (by omega) hx'
    obtain ⟨c', c3, c4, rfl⟩ := mem_seg (z := z) hb hy'
    exact hx c c' c1 c2 c3 c4
  · intro y hy' x hx'
    rw [← hL2] at hx'
    rw [← hR1] at hy'
    obtain ⟨c, c1, c2, rfl⟩ := mem_seg (z := z) (by omega) hy'
    obtain ⟨c', c3, c4, rfl⟩ := mem_seg (z := z) (by omega) hx'
    exact hy c c' c1 c2 c3 c4
theorem mrg_left {α : Type} {z : α} {key : α → Int} {l : List α} {a i b : Nat} (h1 : a + 1 ≤ i) (h2 : i ≤ b) (hb : b ≤ l.length) (hx : ∀ c, a + 1 ≤ c → c < i → key (l.getD c z) < key (l.getD a z)) (hy : ∀ c, i ≤ c → c < b → key (l.getD a z) ≤ key (l.getD c z)) :
    permL z (rotI a (a + 1) i) l = mrg key l a (a + 1) b := by
  have e1 : seg l a (a + 1) = [l.getD a z] := by
    refine ext_get (z := z) (by rw [seg_length (by omega)]; simp) fun p hp => ?_
    rw [seg_length (by omega)] at hp
    obtain rfl : p = 0 := by omega
    rw [seg_get, if_pos (by omega)]; rfl
  rw [mrg, e1, seg_parts l h1 h2, mg_left (key := key), rot_put (by omega) h1 (by omega), e1]
  · have l1 : (l.take a).length = a := by simp; omega
    have p0 : l = l.take a ++ ([l.getD a z] ++ (seg l (a + 1) i ++ (seg l i b ++ l.drop b))) := by
      have := parts3 l (a := a) (b := b) (by omega)
      rw [seg_parts l (a := a) (b := a + 1) (c := b) (by omega) (by omega), seg_parts l h1 h2, e1] at this
      simpa only [List.append_assoc] using this
    have l2 := seg_length (l := l) (a := a + 1) (b := i) (by omega)
    have l3 := seg_length (l := l) (a := i) (b := b) hb
    generalize seg l (a + 1) i = R1 at *
    generalize seg l i b = R2 at *
    generalize l.getD a z = x at *
    have p1 : l = l.take a ++ (([x] ++ R1) ++ (R2 ++ l.drop b)) := by simpa only [List.append_assoc] using p0
    have p2 : l = l.take a ++ (([x] ++ (R1 ++ R2)) ++ l.drop b) := by simpa only [List.append_assoc] using p0
    generalize l.take a = A at *
    generalize l.drop b = B at *
    conv => lhs; rw [p1]
    conv => rhs; rw [p2]
    rw [putS_at (by omega) (by simp; omega), putS_at (by omega) (by simp; omega)]
    simp
  · intro y hy'
    obtain ⟨c, c1, c2, rfl⟩ := mem_seg (z := z) (by omega) hy'
    exact hx c c1 c2
  · intro y hy'
    obtain ⟨c, c1, c2, rfl⟩ := mem_seg (z := z) hb hy'
    exact hy c c1 c2
theorem mrg_right {α : Type} {z : α} {key : α → Int} {l : List α} {a i m : Nat} (h1 : a ≤ i) (h2 : i ≤ m) (hb : m < l.length) (hx : ∀ c, a ≤ c → c < i → key (l.getD c z) ≤ key (l.getD m z)) (hy : ∀ c, i ≤ c → c < m → key (l.getD m z) < key (l.getD c z)) :
    permL z (rotI i m (m + 1)) l = mrg key l a m (m + 1) := by
  have e1 : seg l m (m + 1) = [l.getD m z] := by
    refine ext_get (z := z) (by rw [seg_length (by omega)]; simp) fun p hp => ?_
    rw [seg_length (by omega)] at hp
    obtain rfl : p = 0 := by omega
    rw [seg_get, if_pos (by omega)]; rfl
  rw [mrg, e1, seg_parts l h1 h2, mg_right (key := key), rot_put h2 (by omega) (by omega), e1]
  · have l1 : (l.take a).length = a := by simp; omega
    have p0 : l = l.take a ++ (seg l a i ++ (seg l i m ++ ([l.getD m z] ++ l.drop (m + 1)))) := by
      have := parts3 l (a := a) (b := m + 1) (by omega)
      rw [seg_parts l (a := a) (b := i) (c := m + 1) (by omega) (by omega), seg_parts l (a := i) (b := m) (c := m + 1) (by omega) (by omega), e1] at this
      simpa only [List.append_assoc] using this
    have l2 := seg_length (l := l) (a := a) (b := i) (by omega)
    have l3 := seg_length (l := l) (a := i) (b := m) (by omega)
    generalize seg l a i = L1 at *
    generalize seg l i m = L2 at *
    generalize l.getD m z = x at *
    have p1 : l = (l.take a ++ L1) ++ ((L2 ++ [x]) ++ l.drop (m + 1)) := by simpa only [List.append_assoc] using p0
    have p2 : l = l.take a ++ ((L1 ++ (L2 ++ [x])) ++ l.drop (m + 1)) := by simpa only [List.append_assoc] using p0
    generalize l.take a = A at *
    generalize l.drop (m + 1) = B at *
    conv => lhs; rw [p1]
    conv => rhs; rw [p2]
    rw [putS_at (by simp; omega) (by simp; omega), putS_at (by omega) (by simp; omega)]
    simp
  · intro y hy'
    obtain ⟨c, c1, c2, rfl⟩ := mem_seg (z := z) (by omega) hy'
    exact hx c c1 c2
  · intro y hy'
    obtain ⟨c, c1, c2, rfl⟩ := mem_seg (z := z) (by omega) hy'
    exact hy c c1 c2
def insS {α : Type} (key : α → Int) (l : List α) (a b : Nat) : List α := putS l a b (stS key (seg l a b))
theorem insS_length {α : Type} {key : α → Int} {l : List α} {a b : Nat} (h : a ≤ b) (hb : b ≤ l.length) : (insS key l a b).length = l.length := putS_length h hb (by rw [stS_length, seg_length hb])
theorem mrg_length {α : Type} {key : α → Int} {l : List α} {a m b : Nat} (h : a ≤ m) (h2 : m ≤ b) (hb : b ≤ l.length) : (mrg key l a m b).length = l.length :=
  putS_length (by omega) hb (by rw [mg_length key _ _ _ rfl, seg_length (by omega), seg_length hb]; omega)
theorem seg_one {α : Type} {z : α} {l : List α} {i : Nat} (h : i < l.length) : seg l i (i + 1) = [l.getD i z] := by
  refine ext_get (z := z) (by rw [seg_length (by omega)]; simp) fun p hp => ?_
  rw [seg_length (by omega)] at hp
  obtain rfl : p = 0 := by omega
  rw [seg_get, if_pos (by omega)]; rfl
theorem ins_start {α : Type} {key : α → Int} {l : List α} {a b : Nat} (h : b ≤ a + 1) (hab : a ≤ b) (hb : b ≤ l.length) : insS key l a b = l := by
  have : stS key (seg l a b) = seg l a b := by
    rcases Nat.lt_or_ge a b with h1 | h1
    · obtain rfl : b = a + 1 := by omega
      cases l with
      | nil => simp at hb
      | cons x r => rw [seg_one (z := x) (by omega)]; simp [stS, mg]
    · obtain rfl : a = b := by omega
      simp [seg, stS]
  rw [insS, this, putS, List.append_assoc]
  exact (parts3 l hab).symm
theorem ins_sorted {α : Type} {z : α} {key : α → Int} {l : List α} {a i : Nat} (h : a ≤ i) (hi : i ≤ l.length) : Mono z key (insS key l a i) a i := by
  refine (mono_ks (by rw [insS_length h hi]; exact hi)).1 ?_
  have hl : (l.take a).length = a := by simp; omega
  rw [insS, putS, List.append_assoc, seg_at hl.symm (by rw [stS_length, seg_length hi]; omega)]
  exact stS_sorted _ _
theorem ins_at {α : Type} {z : α} {key : α → Int} {l : List α} {a i p : Nat} (h : a ≤ i) (hi : i ≤ l.length) (hp : i ≤ p) : (insS key l a i).getD p z = l.getD p z := by
  rw [insS, putS_get h hi (by rw [stS_length, seg_length hi]), if_neg (by omega), if_neg (by omega)]
theorem ins_next {α : Type} {z : α} {key : α → Int} {l : List α} {a i : Nat} (h : a ≤ i) (hi : i < l.length) : mrg key (insS key l a i) a i (i + 1) = insS key l a (i + 1) := by
  have hl : (l.take a).length = a := by simp; omega
  have hs := stS_length key (seg l a i)
  rw [seg_length (by omega)] at hs
  have p0 : insS key l a i = l.take a ++ (stS key (seg l a i) ++ ([l.getD i z] ++ l.drop (i + 1))) := by
    have e : l.drop i = [l.getD i z] ++ l.drop (i + 1) := by
      rw [List.drop_eq_getElem_cons hi, List.getD_eq_getElem?_getD, List.getElem?_eq_getElem hi]; rfl
    rw [insS, putS, e]; simp only [List.append_assoc]
  have e1 : seg (insS key l a i) a i = stS key (seg l a i) := by rw [p0, seg_at hl.symm (by omega)]
  have e2 : seg (insS key l a i) i (i + 1) = [l.getD i z] := by
    rw [p0, ← List.append_assoc, seg_at (by rw [List.length_append]; omega) (by simp)]
  rw [mrg, e1, e2, ← stS_snoc, p0]
  have : l.take a ++ (stS key (seg l a i) ++ ([l.getD i z] ++ l.drop (i + 1))) = l.take a ++ ((stS key (seg l a i) ++ [l.getD i z]) ++ l.drop (i + 1)) := by simp only [List.append_assoc]
  rw [this, putS_at hl.symm (by rw [List.length_append]; simp; omega), insS, putS, seg_parts l h (Nat.le_succ i), seg_one (z := z) hi, List.append_assoc]
/-- Blocks that are sorted, one behind the other. -/
theorem ins_blk {α : Type} {key : α → Int} {P S T : List α} {u v : Nat} (hu : u = P.length) (hv : v = u + S.length) : insS key (P ++ (S ++ T)) u v = P ++ (stS key S ++ T) := by
  rw [insS, seg_at hu hv, putS_at hu hv]
theorem mrg_blk {α : Type} {key : α → Int} {P S1 S2 T : List α} {u m v : Nat} (hu : u = P.length) (hm : m = u + S1.length) (hv : v = m + S2.length) : mrg key (P ++ (stS key S1 ++ (stS key S2 ++ T))) u m v = P ++ (stS key (S1 ++ S2) ++ T) := by
  have e1 : seg (P ++ (stS key S1 ++ (stS key S2 ++ T))) u m = stS key S1 := seg_at hu (by rw [stS_length]; exact hm)
  have e2 : seg (P ++ (stS key S1 ++ (stS key S2 ++ T))) m v = stS key S2 := by rw [← List.append_assoc, seg_at (by rw [List.length_append, stS_length]; omega) (by rw [stS_length]; exact hv)]
  rw [mrg, e1, e2, stS_append, show P ++ (stS key S1 ++ (stS key S2 ++ T)) = P ++ ((stS key S1 ++ stS key S2) ++ T) by simp only [List.append_assoc], putS_at hu (by rw [List.length_append, stS_length, stS_length]; omega)]
theorem mono_blk {α : Type} {z : α} {key : α → Int} {P S T : List α} {u v : Nat} (hu : u = P.length) (hv : v = u + S.length) : Mono z key (P ++ (stS key S ++ T)) u v := by
  refine (mono_ks (by simp only [List.length_append, stS_length]; omega)).1 ?_
  rw [seg_at hu (by rw [stS_length]; exact hv)]
  exact stS_sorted _ _
theorem cut4 {α : Type} (l : List α) : ∃ S1 S2 S3 S4 : List α, l = S1 ++ (S2 ++ (S3 ++ S4)) ∧ S1.length = min 20 l.length ∧ S2.length = min 20 (l.length - 20) ∧ S3.length = min 20 (l.length - 40) ∧ S4.length = l.length - 60 := by
  refine ⟨l.take 20, (l.drop 20).take 20, (l.drop 40).take 20, l.drop 60, ?_, by simp, by simp, by simp, by simp⟩
  have a : l.drop 40 = (l.drop 20).drop 20 := by rw [List.drop_drop]
  have b : l.drop 60 = (l.drop 40).drop 20 := by rw [List.drop_drop]
  rw [b, List.take_append_drop, a, List.take_append_drop, List.take_append_drop]


def cmpI (x y : Int) : Int := if x < y then -1 else if y < x then 1 else 0
theorem cmpI_neg {x y : Int} : cmpI x y < 0 ↔ x < y := by
  unfold cmpI
  split
  · simp_all
  · split <;> omega
theorem natI {a : Int} (h : 0 ≤ a) : ∃ n : Nat, a = n := ⟨a.toNat, by omega⟩
/-- Half of a sum. -/
theorem half_ok {x : Int} (h : 0 ≤ x) (h' : x ≤ 4294967296) : IntKind.i64.wrap ((IntKind.u64.wrap x).fdiv 2) = x / 2 := by
  rw [show IntKind.u64.wrap x = x by simp only [IntKind.wrap, IntKind.signed, IntKind.bits]; simp; omega, Int.fdiv_eq_ediv_of_nonneg x (by decide), wrap64 (by omega) (by omega)]
abbrev zIt : Item := ⟨0, 0, 0, 0, 0⟩
def ISw (data : List Item) (a b n i : Int) (xs : List Item) : Prop := ∃ k : Nat, i = k ∧ (k : Int) ≤ n ∧ PI zIt (swpI a.toNat b.toNat k) data xs
def IRt (data : List Item) (a k b i j : Int) (xs : List Item) : Prop := ∃ p q : Nat, i = p ∧ j = q ∧ 0 < p ∧ 0 < q ∧ (p : Int) ≤ k - a ∧ (q : Int) ≤ b - k ∧ xs.length = data.length ∧ permL zIt (rotI (k.toNat - p) k.toNat (k.toNat + q)) xs = permL zIt (rotI a.toNat k.toNat b.toNat) data
def II1 (data : List Item) (a b i : Int) (xs : List Item) : Prop := ∃ k : Nat, i = k ∧ a.toNat + 1 ≤ k ∧ (k ≤ b.toNat → xs = insS Item.number data a.toNat k) ∧ (b.toNat < k → k = a.toNat + 1 ∧ xs = data)
def II2 (l : List Item) (a i j : Int) (xs : List Item) : Prop := ∃ q : Nat, j = q ∧ a.toNat ≤ q ∧ q ≤ i.toNat ∧ PI zIt (rotI q i.toNat (i.toNat + 1)) l xs ∧ ∀ c, q ≤ c → c < i.toNat → (l.getD i.toNat zIt).number < (l.getD c zIt).number
theorem ii_facts {l xs : List Item} {q k : Nat} (h : PI zIt (rotI q k (k + 1)) l xs) (hq : q ≤ k) (hk : k < l.length) : xs.getD q zIt = l.getD k zIt ∧ ∀ r, r < q → xs.getD r zIt = l.getD r zIt := by
  refine ⟨?_, fun r hr => ?_⟩
  · rw [h.2 q (by omega)]
    congr 1
    unfold rotI
    (repeat' split) <;> omega
  · rw [h.2 r (by omega)]
    congr 1
    unfold rotI
    (repeat' split) <;> omega
theorem ii_step {l xs : List Item} {a q k : Nat} (h : II2 l a k ((q + 1 : Nat) : Int) xs) (hk : k < l.length) (ha : a ≤ q) (hc : (xs.getD (q + 1) zIt).number < (xs.getD q zIt).number) : II2 l a k (q : Int) ((xs.set (q + 1) (xs.getD q zIt)).set q (xs.getD (q + 1) zIt)) := by
  obtain ⟨q', e, h1, h2, h3, h4⟩ := h
  obtain rfl : q' = q + 1 := by omega
  simp only [Int.toNat_natCast] at *
  obtain ⟨f1, f2⟩ := ii_facts h3 h2 hk
  rw [f1, f2 q (by omega)] at hc
  have hrot := rot_down h3 h2 hk
  refine ⟨q, rfl, ha, by omega, hrot, fun c hc1 hc2 => ?_⟩
  rcases Nat.lt_or_ge q c with h | h
  · exact h4 c (by omega) hc2
  · obtain rfl : c = q := by omega
    exact hc
theorem ii_end {data xs : List Item} {a q k : Nat} (h : II2 (insS Item.number data a k) a k (q : Int) xs) (ha : a ≤ k) (hk : k < data.length) (hc : a < q → ¬ (xs.getD q zIt).number < (xs.getD (q - 1) zIt).number) : xs = insS Item.number data a (k + 1) := by
  obtain ⟨q', e, h1, h2, h3, h4⟩ := h
  obtain rfl : q' = q := by omega
  simp only [Int.toNat_natCast] at *
  have hl := insS_length (key := Item.number) (l := data) (a := a) (b := k) ha (by omega)
  obtain ⟨f1, f2⟩ := ii_facts h3 h2 (by omega)
  rw [← ins_next (z := zIt) ha hk, ← mrg_right (z := zIt) h1 h2 (by omega) ?_ h4]
  · exact h3.eq
  · intro c hc1 hc2
    have hc := hc (by omega)
    rw [f1, f2 (q' - 1) (by omega)] at hc
    have := ins_sorted (z := zIt) (key := Item.number) ha (by omega : k ≤ data.length) c (q' - 1) hc1 (by omega) (by omega)
    omega
abbrev nK (l : List Item) (c : Nat) : Int := (l.getD c zIt).number
abbrev MonoN (l : List Item) (u v : Nat) : Prop := Mono zIt Item.number l u v
def IA1 (l : List Item) (a k b : Nat) (i j : Int) : Prop := ∃ p q : Nat, i = p ∧ j = q ∧ k ≤ p ∧ p ≤ q ∧ q ≤ b ∧ (∀ c, k ≤ c → c < p → nK l c < nK l a) ∧ ∀ c, q ≤ c → c < b → nK l a ≤ nK l c
def IA2 (l : List Item) (a i : Nat) (x : Int) (xs : List Item) : Prop := ∃ p : Nat, x = p ∧ a ≤ p ∧ p + 1 ≤ i ∧ PI zIt (rotI a (a + 1) (p + 1)) l xs
def IB1 (l : List Item) (a k : Nat) (i j : Int) : Prop := ∃ p q : Nat, i = p ∧ j = q ∧ a ≤ p ∧ p ≤ q ∧ q ≤ k ∧ (∀ c, a ≤ c → c < p → nK l c ≤ nK l k) ∧ ∀ c, q ≤ c → c < k → nK l k < nK l c
def IB2 (l : List Item) (k i : Nat) (x : Int) (xs : List Item) : Prop := ∃ p : Nat, x = p ∧ i ≤ p ∧ p ≤ k ∧ PI zIt (rotI p k (k + 1)) l xs
def ICs (l : List Item) (P lo hi : Nat) (s r : Int) : Prop := ∃ p q : Nat, s = p ∧ r = q ∧ lo ≤ p ∧ p ≤ q ∧ q ≤ hi ∧ (∀ c, lo ≤ c → c < p → nK l c ≤ nK l (P - c)) ∧ ∀ c, q ≤ c → c < hi → nK l (P - c) < nK l c
theorem half2 {p q : Nat} (h : p + q ≤ 16384) : IntKind.i64.wrap ((IntKind.u64.wrap (IntKind.i64.wrap ((p : Int) + q))).fdiv (2 ^ min 1 IntKind.u64.bits)) = (((p + q) / 2 : Nat) : Int) := by
  rw [wrap64 (n := (p : Int) + q) (by omega) (by omega), show (2 : Int) ^ min 1 IntKind.u64.bits = 2 from rfl, half_ok (by omega) (by omega)]; omega
theorem half_le {p q : Nat} (h : p < q) : p ≤ (p + q) / 2 ∧ (p + q) / 2 < q := by omega
theorem ia_up {l : List Item} {a k b p q : Nat} (hM : MonoN l k b) (h1 : k ≤ p) (h2 : p < q) (h3 : q ≤ b) (h4 : ∀ c, q ≤ c → c < b → nK l a ≤ nK l c) (hc : nK l ((p + q) / 2) < nK l a) : IA1 l a k b (((p + q) / 2 + 1 : Nat) : Int) q := by
  obtain ⟨e1, e2⟩ := half_le h2
  refine ⟨_, q, rfl, rfl, by omega, by omega, h3, fun c c1 c2 => ?_, h4⟩
  have := hM c ((p + q) / 2) c1 (by omega) (by omega)
  exact Int.lt_of_le_of_lt this hc
theorem ia_down {l : List Item} {a k b p q : Nat} (hM : MonoN l k b) (h1 : k ≤ p) (h2 : p < q) (h3 : q ≤ b) (h4 : ∀ c, k ≤ c → c < p → nK l c < nK l a) (hc : ¬ nK l ((p + q) / 2) < nK l a) : IA1 l a k b p (((p + q) / 2 : Nat) : Int) := by
  obtain ⟨e1, e2⟩ := half_le h2
  refine ⟨p, _, rfl, rfl, h1, e1, by omega, h4, fun c c1 c2 => ?_⟩
  have := hM ((p + q) / 2) c (by omega) c1 c2
  exact Int.le_trans (Int.not_lt.1 hc) this
theorem ib_up {l : List Item} {a k p q : Nat} (hM : MonoN l a k) (h1 : a ≤ p) (h2 : p < q) (h3 : q ≤ k) (h4 : ∀ c, q ≤ c → c < k → nK l k < nK l c) (hc : ¬ nK l k < nK l ((p + q) / 2)) : IB1 l a k (((p + q) / 2 + 1 : Nat) : Int) q := by
  obtain ⟨e1, e2⟩ := half_le h2
  refine ⟨_, q, rfl, rfl, by omega, by omega, h3, fun c c1 c2 => ?_, h4⟩
  have := hM c ((p + q) / 2) c1 (by omega) (by omega)
  exact Int.le_trans this (Int.not_lt.1 hc)
theorem ib_down {l : List Item} {a k p q : Nat} (hM : MonoN l a k) (h1 : a ≤ p) (h2 : p < q) (h3 : q ≤ k) (h4 : ∀ c, a ≤ c → c < p → nK l c ≤ nK l k) (hc : nK l k < nK l ((p + q) / 2)) : IB1 l a k p (((p + q) / 2 : Nat) : Int) := by
  obtain ⟨e1, e2⟩ := half_le h2
  refine ⟨p, _, rfl, rfl, h1, e1, by omega, h4, fun c c1 c2 => ?_⟩
  have := hM ((p + q) / 2) c (by omega) c1 c2
  exact Int.lt_of_lt_of_le hc this
/-- Where the middle is looked for. -/
def Span (a k b P lo hi : Nat) : Prop := ∀ c, lo ≤ c → c < hi → a ≤ c ∧ c < k ∧ c ≤ P ∧ k ≤ P - c ∧ P - c < b
theorem ic_up {l : List Item} {a k b P lo hi p q : Nat} (hS : Span a k b P lo hi) (hM : MonoN l a k) (hN : MonoN l k b) (h1 : lo ≤ p) (h2 : p < q) (h3 : q ≤ hi) (h4 : ∀ c, q ≤ c → c < hi → nK l (P - c) < nK l c) (hc : ¬ nK l (P - (p + q) / 2) < nK l ((p + q) / 2)) : ICs l P lo hi (((p + q) / 2 + 1 : Nat) : Int) q := by
  obtain ⟨e1, e2⟩ := half_le h2
  refine ⟨_, q, rfl, rfl, by omega, by omega, h3, fun c c1 c2 => ?_, h4⟩
  obtain ⟨s1, s2, s3, s4, s5⟩ := hS ((p + q) / 2) (by omega) (by omega)
  obtain ⟨t1, t2, t3, t4, t5⟩ := hS c c1 (by omega)
  have u := hM c ((p + q) / 2) t1 (by omega) s2
  have v := hN (P - (p + q) / 2) (P - c) s4 (by omega) t5
  have w := Int.not_lt.1 hc
  exact Int.le_trans u (Int.le_trans w v)
theorem ic_down {l : List Item} {a k b P lo hi p q : Nat} (hS : Span a k b P lo hi) (hM : MonoN l a k) (hN : MonoN l k b) (h1 : lo ≤ p) (h2 : p < q) (h3 : q ≤ hi) (h4 : ∀ c, lo ≤ c → c < p → nK l c ≤ nK l (P - c)) (hc : nK l (P - (p + q) / 2) < nK l ((p + q) / 2)) : ICs l P lo hi p (((p + q) / 2 : Nat) : Int) := by
  obtain ⟨e1, e2⟩ := half_le h2
  refine ⟨p, _, rfl, rfl, h1, e1, by omega, h4, fun c c1 c2 => ?_⟩
  obtain ⟨s1, s2, s3, s4, s5⟩ := hS ((p + q) / 2) (by omega) (by omega)
  obtain ⟨t1, t2, t3, t4, t5⟩ := hS c (by omega) c2
  have u := hM ((p + q) / 2) c s1 c1 t2
  have v := hN (P - c) (P - (p + q) / 2) t4 (by omega) s5
  exact Int.lt_of_le_of_lt v (Int.lt_of_lt_of_le hc u)
theorem span_hi {a k b : Nat} (h : a < k) (h' : k < b) (hd : (a + b) / 2 < k) : Span a k b ((a + b) / 2 + k - 1) ((a + b) / 2 + k - b) ((a + b) / 2) := fun c h1 h2 => by omega
theorem span_lo {a k b : Nat} (h : a < k) (h' : k < b) (hd : k ≤ (a + b) / 2) : Span a k b ((a + b) / 2 + k - 1) a k := fun c h1 h2 => by omega
/-- The middle as it was found: s; e: its other end. -/
structure Mid (l : List Item) (a k b d s e : Nat) : Prop where
  as_ : a ≤ s
  sk : s ≤ k
  ke : k ≤ e
  eb : e ≤ b
  sd : s ≤ d
  de : d ≤ e
  sum : s + e = d + k
  hx : ∀ c c', a ≤ c → c < s → e ≤ c' → c' < b → nK l c ≤ nK l c'
  hy : ∀ c c', k ≤ c → c < e → s ≤ c' → c' < k → nK l c < nK l c'
theorem mid_hi {l : List Item} {a k b s : Nat} {r : Int} (h : a < k) (h' : k < b) (hd : (a + b) / 2 < k) (hM : MonoN l a k) (hN : MonoN l k b) (hI : ICs l ((a + b) / 2 + k - 1) ((a + b) / 2 + k - b) ((a + b) / 2) (s : Int) r) (hr : r ≤ s) : Mid l a k b ((a + b) / 2) s ((a + b) / 2 + k - s) := by
  obtain ⟨p, q, e1, rfl, h1, h2, h3, h4, h5⟩ := hI
  obtain rfl : p = s := by omega
  obtain rfl : q = p := by omega
  refine ⟨by omega, by omega, by omega, by omega, by omega, by omega, by omega, fun c c' c1 c2 c3 c4 => ?_, fun c c' c1 c2 c3 c4 => ?_⟩
  · have := h4 (q - 1) (by omega) (by omega)
    have u := hM c (q - 1) c1 (by omega) (by omega)
    have v := hN ((a + b) / 2 + k - 1 - (q - 1)) c' (by omega) (by omega) c4
    exact Int.le_trans u (Int.le_trans this v)
  · have := h5 q (Nat.le_refl _) (by omega)
    have u := hM q c' (by omega) c3 c4
    have v := hN c ((a + b) / 2 + k - 1 - q) c1 (by omega) (by omega)
    exact Int.lt_of_le_of_lt v (Int.lt_of_lt_of_le this u)
theorem mid_lo {l : List Item} {a k b s : Nat} {r : Int} (h : a < k) (h' : k < b) (hd : k ≤ (a + b) / 2) (hM : MonoN l a k) (hN : MonoN l k b) (hI : ICs l ((a + b) / 2 + k - 1) a k (s : Int) r) (hr : r ≤ s) : Mid l a k b ((a + b) / 2) s ((a + b) / 2 + k - s) := by
  obtain ⟨p, q, e1, rfl, h1, h2, h3, h4, h5⟩ := hI
  obtain rfl : p = s := by omega
  obtain rfl : q = p := by omega
  refine ⟨by omega, by omega, by omega, by omega, by omega, by omega, by omega, fun c c' c1 c2 c3 c4 => ?_, fun c c' c1 c2 c3 c4 => ?_⟩
  · have := h4 (q - 1) (by omega) (by omega)
    have u := hM c (q - 1) c1 (by omega) (by omega)
    have v := hN ((a + b) / 2 + k - 1 - (q - 1)) c' (by omega) (by omega) c4
    exact Int.le_trans u (Int.le_trans this v)
  · have := h5 q (Nat.le_refl _) (by omega)
    have u := hM q c' (by omega) c3 c4
    have v := hN c ((a + b) / 2 + k - 1 - q) c1 (by omega) (by omega)
    exact Int.lt_of_le_of_lt v (Int.lt_of_lt_of_le this u)
theorem seg_self {α : Type} (l : List α) (a : Nat) : seg l a a = [] := by simp [seg]
theorem putS_seg {α : Type} {l : List α} {a b : Nat} (h : a ≤ b) : putS l a b (seg l a b) = l := by
  rw [putS, List.append_assoc]; exact (parts3 l h).symm
theorem mrg_l0 {l : List Item} {a b : Nat} (h : a ≤ b) : mrg Item.number l a a b = l := by rw [mrg, seg_self, mg_nil_l, putS_seg h]
theorem mrg_r0 {l : List Item} {a b : Nat} (h : a ≤ b) : mrg Item.number l a b b = l := by rw [mrg, seg_self, mg_nil_r, putS_seg h]
def L1s (l : List Item) (s k e : Nat) : List Item := permL zIt (rotI s k e) l
theorem l1_no {l : List Item} {s k e : Nat} (h1 : s ≤ k) (h2 : k ≤ e) (h : ¬ (s < k ∧ k < e)) : L1s l s k e = l := by
  rw [L1s, permL_congr (g := fun p => p) fun p _ => by unfold rotI; (repeat' split) <;> omega, permL_id]
theorem l2_no {l : List Item} {a s d : Nat} (h1 : a ≤ s) (h2 : s ≤ d) (h : ¬ (a < s ∧ s < d)) : mrg Item.number l a s d = l := by
  rcases Nat.lt_or_ge a s with h3 | h3
  · obtain rfl : s = d := by omega
    exact mrg_r0 h1
  · obtain rfl : a = s := by omega
    exact mrg_l0 h2
theorem sym_end {l : List Item} {a k b d s e : Nat} (hm : Mid l a k b d s e) (hb : b ≤ l.length) : mrg Item.number (mrg Item.number (L1s l s k e) a s d) d e b = mrg Item.number l a k b :=
  mrg_step hm.as_ hm.sk hm.ke hm.eb hb hm.sum hm.hx hm.hy
theorem l1_len {l : List Item} {s k e : Nat} : (L1s l s k e).length = l.length := permL_length
theorem l2_len {l : List Item} {a k b d s e : Nat} (hm : Mid l a k b d s e) (hb : b ≤ l.length) : (mrg Item.number (L1s l s k e) a s d).length = l.length := by
  rw [Sx.mrg_length hm.as_ hm.sd (by rw [l1_len]; have := hm.de; have := hm.eb; omega), l1_len]
theorem l1_mono {l : List Item} {a k b d s e : Nat} (hm : Mid l a k b d s e) (hb : b ≤ l.length) (hM : MonoN l a k) (hN : MonoN l k b) : MonoN (L1s l s k e) a s ∧ MonoN (L1s l s k e) s d ∧ MonoN (L1s l s k e) d e ∧ MonoN (L1s l s k e) e b := by
  obtain ⟨m1, m2, m3, m4, m5, m6, m7, _, _⟩ := hm
  have g : ∀ c, c < b → (L1s l s k e).getD c zIt = l.getD (rotI s k e c) zIt := fun c hc => permL_get (by omega)
  refine ⟨fun c c' c1 c2 c3 => ?_, fun c c' c1 c2 c3 => ?_, fun c c' c1 c2 c3 => ?_, fun c c' c1 c2 c3 => ?_⟩
  all_goals rw [g c (by omega), g c' (by omega)]
  · rw [show rotI s k e c = c by unfold rotI; (repeat' split) <;> omega, show rotI s k e c' = c' by unfold rotI; (repeat' split) <;> omega]
    exact hM c c' c1 c2 (by omega)
  · rw [show rotI s k e c = c + (k - s) by unfold rotI; (repeat' split) <;> omega, show rotI s k e c' = c' + (k - s) by unfold rotI; (repeat' split) <;> omega]
    exact hN _ _ (by omega) (by omega) (by omega)
  · rw [show rotI s k e c = c - (e - k) by unfold rotI; (repeat' split) <;> omega, show rotI s k e c' = c' - (e - k) by unfold rotI; (repeat' split) <;> omega]
    exact hM _ _ (by omega) (by omega) (by omega)
  · rw [show rotI s k e c = c by unfold rotI; (repeat' split) <;> omega, show rotI s k e c' = c' by unfold rotI; (repeat' split) <;> omega]
    exact hN c c' (by omega) c2 c3
theorem l2_mono {l : List Item} {a k b d s e : Nat} (hm : Mid l a k b d s e) (hb : b ≤ l.length) (hM : MonoN l a k) (hN : MonoN l k b) : MonoN (mrg Item.number (L1s l s k e) a s d) d e ∧ MonoN (mrg Item.number (L1s l s k e) a s d) e b := by
  have hl : (L1s l s k e).length = l.length := l1_len
  obtain ⟨_, _, n3, n4⟩ := l1_mono hm hb hM hN
  obtain ⟨m1, m2, m3, m4, m5, m6, m7, _, _⟩ := hm
  have g : ∀ c, d ≤ c → (mrg Item.number (L1s l s k e) a s d).getD c zIt = (L1s l s k e).getD c zIt := fun c hc => by
    rw [mrg, putS_get (by omega) (by omega) (by rw [mg_length _ _ _ _ rfl, seg_length (by omega), seg_length (by omega)]; omega), if_neg (by omega), if_neg (by omega)]
  refine ⟨fun c c' c1 c2 c3 => ?_, fun c c' c1 c2 c3 => ?_⟩
  · rw [g c c1, g c' (by omega)]; exact n3 c c' c1 c2 c3
  · rw [g c (by omega), g c' (by omega)]; exact n4 c c' c1 c2 c3


end Go.Proofs.Ythbmllekbbfobaa.Sx
