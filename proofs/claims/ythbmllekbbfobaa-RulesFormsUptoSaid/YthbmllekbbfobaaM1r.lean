import Derived.Test.YthbmllekbbfobaaProg
import Derived.Test.YthbmllekbbfobaaSxU
import Derived.IntWalk
import Derived.Test.YthbmllekbbfobaaF2
/-! money -/
namespace Go.Proofs.Ythbmllekbbfobaa.Sx
open Go
set_option linter.unusedVariables false
set_option linter.unusedSimpArgs false
set_option maxRecDepth 100000

def cmpI (x y : Int) : Int := if x < y then -1 else if y < x then 1 else 0
def rightM (a : Int) (ws : List Int) : Bool := decide (0 ≤ a) && decide (a ≤ 2147483648) && decide (ws.length ≤ 16) && ws.all (fun w => decide (0 ≤ w) && decide (w ≤ 1000)) && ws.any (fun w => decide (0 < w))
def keyM (a : Int) (ws : List Int) (all i : Int) : Int := (a * ws.getD i.toNat 0) % all
/-- What is known where keys are reckoned. -/
def OkM (a : Int) (ws : List Int) (all : Int) : Prop := 0 ≤ a ∧ a ≤ 2147483648 ∧ ws.length ≤ 16 ∧ (∀ w ∈ ws, 0 ≤ w ∧ w ≤ 1000) ∧ 0 < all ∧ all ≤ 16000
def IdxM (n : Nat) (l : List Int) : Prop := ∀ i ∈ l, 0 ≤ i ∧ i < n
def insRev (key : Int → Int) (x : Int) : List Int → List Int
  | [] => [x]
  | y :: r => if key y < key x then y :: insRev key x r else x :: y :: r
def insD (key : Int → Int) (x : Int) (l : List Int) : List Int := (insRev key x l.reverse).reverse
def sortD (key : Int → Int) : List Int → List Int
  | l => l.foldl (fun s x => insD key x s) []
theorem mulM {a w : Int} (h : 0 ≤ a) (h' : a ≤ 2147483648) (k : 0 ≤ w) (k' : w ≤ 1000) : 0 ≤ a * w ∧ a * w ≤ 2147483648000 := by
  refine ⟨Int.mul_nonneg h k, ?_⟩
  have := Int.mul_le_mul h' k' k (by decide)
  omega
theorem rightM_bad {a : Int} {ws : List Int} {j : Nat} (hj : j < ws.length) (h : ws.getD j 0 < 0 ∨ 1000 < ws.getD j 0) : rightM a ws = false := by
  rw [← Bool.not_eq_true]
  intro hc
  unfold rightM at hc
  simp only [Bool.and_eq_true] at hc
  have := all_getD (d := (0 : Int)) hc.1.2 hj
  simp only [Bool.and_eq_true, decide_eq_true_eq] at this
  omega
def IRM (ws : List Int) (i : Int) (some_ : Bool) : Prop := ∃ j : Nat, j ≤ ws.length ∧ i = j ∧ (ws.take j).all (fun w => decide (0 ≤ w) && decide (w ≤ 1000)) = true ∧ some_ = (ws.take j).any (fun w => decide (0 < w))



theorem insRev_mem {key : Int → Int} {x y : Int} : ∀ {l : List Int}, y ∈ insRev key x l ↔ y = x ∨ y ∈ l
  | [] => by simp [insRev]
  | z :: r => by
    simp only [insRev]
    split
    · simp only [List.mem_cons, insRev_mem (l := r)]
      constructor
      · rintro (h | h | h) <;> simp [h]
      · rintro (h | h | h) <;> simp [h]
    · simp
theorem insRev_length {key : Int → Int} {x : Int} : ∀ {l : List Int}, (insRev key x l).length = l.length + 1
  | [] => rfl
  | z :: r => by
    simp only [insRev]
    split
    · simp [insRev_length (l := r)]
    · simp
theorem insD_mem {key : Int → Int} {x y : Int} {l : List Int} : y ∈ insD key x l ↔ y = x ∨ y ∈ l := by
  unfold insD; rw [List.mem_reverse, insRev_mem, List.mem_reverse]
theorem insD_length {key : Int → Int} {x : Int} {l : List Int} : (insD key x l).length = l.length + 1 := by
  unfold insD; rw [List.length_reverse, insRev_length, List.length_reverse]
theorem sortD_snoc {key : Int → Int} {x : Int} {l : List Int} : sortD key (l ++ [x]) = insD key x (sortD key l) := by
  unfold sortD; rw [List.foldl_append]; rfl
theorem rev_ind {P : List Int → Prop} (h0 : P []) (h1 : ∀ l x, P l → P (l ++ [x])) (l : List Int) : P l := by
  have : ∀ n (l : List Int), l.length = n → P l := by
    intro n
    induction n with
    | zero => intro l h; rw [List.length_eq_zero_iff.1 h]; exact h0
    | succ n ih =>
      intro l h
      have e : l = l.take n ++ [l.getD n 0] := by rw [← take_succ (by omega), List.take_of_length_le (by omega)]
      rw [e]
      exact h1 _ _ (ih _ (by rw [List.length_take]; omega))
  exact this _ l rfl
theorem sortD_mem {key : Int → Int} {y : Int} (l : List Int) : y ∈ sortD key l ↔ y ∈ l := by
  induction l using rev_ind with
  | h0 => simp [sortD]
  | h1 l x ih => rw [sortD_snoc, insD_mem, ih]; simp [or_comm]
theorem sortD_length {key : Int → Int} (l : List Int) : (sortD key l).length = l.length := by
  induction l using rev_ind with
  | h0 => rfl
  | h1 l x ih => rw [sortD_snoc, insD_length, ih]; simp
def IS1 (key : Int → Int) (data : List Int) (i : Int) (xs : List Int) : Prop := ∃ m : Nat, i = m ∧ 1 ≤ m ∧ (m ≤ data.length ∨ m = 1) ∧ xs = sortD key (data.take m) ++ data.drop m
def IS2 (key : Int → Int) (L : List Int) (x : Int) (rest : List Int) (j : Int) (xs : List Int) : Prop := ∃ k : Nat, k ≤ L.length ∧ j = k ∧ xs = L.take k ++ x :: (L.drop k ++ rest) ∧ insRev key x L.reverse = (L.drop k).reverse ++ insRev key x (L.take k).reverse
theorem is1_zero {key : Int → Int} {data : List Int} : IS1 key data 1 data := by
  refine ⟨1, rfl, by omega, .inr rfl, ?_⟩
  cases data with
  | nil => rfl
  | cons x l => rfl
theorem is1_facts {key : Int → Int} {data : List Int} {i : Int} {xs : List Int} (h : IS1 key data i xs) (hi : i < data.length) :
    0 ≤ i ∧ IS2 key (sortD key (data.take i.toNat)) (data.getD i.toNat 0) (data.drop (i.toNat + 1)) i xs := by
  obtain ⟨m, rfl, h1, h2, rfl⟩ := h
  refine ⟨by omega, ⟨m, by rw [sortD_length, List.length_take]; omega, rfl, ?_, ?_⟩⟩
  · simp only [Int.toNat_natCast]
    have hl : (sortD key (data.take m)).length = m := by rw [sortD_length, List.length_take]; omega
    rw [List.take_of_length_le (l := sortD key (data.take m)) (by omega), List.drop_of_length_le (l := sortD key (data.take m)) (by omega), drop_getD (d := (0 : Int)) (show m < data.length by omega)]
    rfl
  · simp only [Int.toNat_natCast]
    have hl : (sortD key (data.take m)).length = m := by rw [sortD_length, List.length_take]; omega
    rw [List.take_of_length_le (l := sortD key (data.take m)) (by omega), List.drop_of_length_le (l := sortD key (data.take m)) (by omega)]
    rfl
theorem is2_facts {key : Int → Int} {L : List Int} {x : Int} {rest : List Int} {j : Int} {xs : List Int} (h : IS2 key L x rest j xs) :
    0 ≤ j ∧ j ≤ L.length ∧ xs.length = L.length + 1 + rest.length ∧ xs.getD j.toNat 0 = x ∧ (0 < j → xs.getD (j - 1).toNat 0 = L.getD (j - 1).toNat 0) ∧ ∀ y ∈ xs, y ∈ L ∨ y = x ∨ y ∈ rest := by
  obtain ⟨k, h1, rfl, rfl, h2⟩ := h
  refine ⟨by omega, by omega, ?_, ?_, ?_, ?_⟩
  · simp only [List.length_append, List.length_take, List.length_cons, List.length_drop]; omega
  · have : (L.take k).length = k := by rw [List.length_take]; omega
    simp only [Int.toNat_natCast, List.getD]
    rw [List.getElem?_append_right (by omega), this, Nat.sub_self]
    rfl
  · intro hk
    have : (L.take k).length = k := by rw [List.length_take]; omega
    obtain ⟨q, rfl⟩ : ∃ q, k = q + 1 := ⟨k - 1, by omega⟩
    rw [show ((q + 1 : Nat) : Int) - 1 = (q : Int) by omega]
    simp only [Int.toNat_natCast, List.getD]
    rw [List.getElem?_append_left (by omega), List.getElem?_take_of_lt (by omega)]
  · intro y hy
    simp only [List.mem_append, List.mem_cons] at hy
    rcases hy with hy | hy | hy | hy
    · exact .inl (List.mem_of_mem_take hy)
    · exact .inr (.inl hy)
    · exact .inl (List.mem_of_mem_drop hy)
    · exact .inr (.inr hy)
theorem take_rev {L : List Int} {q : Nat} (h : q < L.length) : (L.take (q + 1)).reverse = L.getD q 0 :: (L.take q).reverse := by
  rw [take_getD (d := (0 : Int)) h, List.reverse_append]; rfl
theorem is2_step {key : Int → Int} {L : List Int} {x : Int} {rest : List Int} {j : Int} {xs : List Int} (h : IS2 key L x rest j xs) (hj : 0 < j) (hk : key (L.getD (j - 1).toNat 0) < key x) :
    IS2 key L x rest (j - 1) ((xs.set j.toNat (xs.getD (j - 1).toNat 0)).set (j - 1).toNat (xs.getD j.toNat 0)) := by
  obtain ⟨_, _, _, f1, f2, _⟩ := is2_facts h
  rw [f1, f2 hj]
  obtain ⟨k, h1, rfl, rfl, h2⟩ := h
  obtain ⟨q, rfl⟩ : ∃ q, k = q + 1 := ⟨k - 1, by omega⟩
  rw [show ((q + 1 : Nat) : Int) - 1 = (q : Int) by omega] at hk ⊢
  simp only [Int.toNat_natCast] at hk ⊢
  refine ⟨q, by omega, rfl, ?_, ?_⟩
  · have l1 : (L.take q).length = q := by rw [List.length_take]; omega
    rw [take_getD (d := (0 : Int)) (show q < L.length by omega)]
    rw [List.append_assoc, List.set_append_right _ _ (by omega), l1, show q + 1 - q = 1 by omega, List.set_append_right _ _ (by omega), l1, Nat.sub_self]
    rw [drop_getD (d := (0 : Int)) (show q < L.length by omega)]
    rfl
  · rw [h2, take_rev (by omega)]
    simp only [insRev]
    rw [if_pos hk, drop_getD (d := (0 : Int)) (show q < L.length by omega), List.reverse_cons, List.append_assoc]
    rfl
theorem is2_end {key : Int → Int} {L : List Int} {x : Int} {rest : List Int} {j : Int} {xs : List Int} (h : IS2 key L x rest j xs) (hj : 0 < j → ¬ key (L.getD (j - 1).toNat 0) < key x) : xs = insD key x L ++ rest := by
  obtain ⟨k, h1, rfl, rfl, h2⟩ := h
  unfold insD
  rw [h2]
  have : insRev key x (L.take k).reverse = x :: (L.take k).reverse := by
    cases k with
    | zero => rfl
    | succ q =>
      rw [take_rev (by omega)]
      simp only [insRev]
      have := hj (by omega)
      rw [show ((q + 1 : Nat) : Int) - 1 = (q : Int) by omega, Int.toNat_natCast] at this
      rw [if_neg this]
  rw [this, List.reverse_append, List.reverse_cons, List.reverse_reverse, List.reverse_reverse]
  simp
theorem is1_next {key : Int → Int} {data : List Int} {i : Int} {xs : List Int} (h0 : 0 ≤ i) (hi : i < data.length) (h : xs = insD key (data.getD i.toNat 0) (sortD key (data.take i.toNat)) ++ data.drop (i.toNat + 1)) : IS1 key data (i + 1) xs := by
  refine ⟨i.toNat + 1, by omega, by omega, .inl (by omega), ?_⟩
  rw [h, take_getD (d := (0 : Int)) (by omega), sortD_snoc]
theorem is1_end {key : Int → Int} {data : List Int} {i : Int} {xs : List Int} (h : IS1 key data i xs) (hi : data.length ≤ i) : xs = sortD key data := by
  obtain ⟨m, rfl, h1, h2, rfl⟩ := h
  rw [List.take_of_length_le (by omega), List.drop_of_length_le (by omega), List.append_nil]
theorem cmpI_neg {x y : Int} : cmpI x y < 0 ↔ x < y := by
  unfold cmpI
  split
  · simp_all
  · split <;> omega
theorem idx_sorted {key : Int → Int} {n m : Nat} {data : List Int} (h : IdxM n data) : IdxM n (sortD key (data.take m)) := fun i hi => h i (List.mem_of_mem_take ((sortD_mem _).1 hi))
theorem idx_all {key : Int → Int} {n i : Nat} {data : List Int} {xs : List Int} (h : IdxM n data) (hi : i < data.length) (hx : ∀ y ∈ xs, y ∈ sortD key (data.take i) ∨ y = data.getD i 0 ∨ y ∈ data.drop (i + 1)) : IdxM n xs := by
  intro y hy
  rcases hx y hy with h1 | h1 | h1
  · exact idx_sorted h y h1
  · rw [h1]; exact h _ (mem_getD hi)
  · exact h _ (List.mem_of_mem_drop h1)
theorem idx_get {n : Nat} {xs : List Int} {i : Int} (h : IdxM n xs) (h0 : 0 ≤ i) (hi : i < xs.length) : 0 ≤ xs.getD i.toNat 0 ∧ xs.getD i.toNat 0 < n := h _ (mem_getD (by omega))


end Go.Proofs.Ythbmllekbbfobaa.Sx
