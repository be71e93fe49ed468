import Derived.Test.YthbmllekbbfobaaProg
import Derived.Test.YthbmllekbbfobaaSxU
import Derived.IntWalk
import Derived.Test.YthbmllekbbfobaaL10
/-! lists, For -/
namespace Go.Proofs.Ythbmllekbbfobaa.Sx
open Go
set_option linter.unusedVariables false
set_option linter.unusedSimpArgs false
set_option maxRecDepth 100000

/-! Lists by number, each once. -/
def cmpA : Int → List Item → List Item
  | _, [] => []
  | p, x :: l => if x.number = p then cmpA p l else x :: cmpA x.number l
def cmpct : List Item → List Item
  | [] => []
  | x :: l => x :: cmpA x.number l
theorem cmpA_len : ∀ (l : List Item) (p : Int), (cmpA p l).length ≤ l.length
  | [], p => by simp [cmpA]
  | x :: l, p => by
    unfold cmpA
    split
    · have := cmpA_len l p; simp; omega
    · have := cmpA_len l x.number; simp; omega
theorem cmpct_len (l : List Item) : (cmpct l).length ≤ l.length := by
  cases l with
  | nil => simp [cmpct]
  | cons x l => have := cmpA_len l x.number; simp [cmpct]; omega
theorem cmpA_snoc : ∀ (l : List Item) (p : Int) (x : Item), cmpA p (l ++ [x]) = if x.number = (l.getLast?.elim p (·.number)) then cmpA p l else cmpA p l ++ [x]
  | [], p, x => by by_cases h : x.number = p <;> simp [cmpA, h]
  | y :: l, p, x => by
    have e : ((y :: l).getLast?.elim p (·.number)) = (l.getLast?.elim y.number (·.number)) := by
      cases l with
      | nil => rfl
      | cons z r => simp [List.getLast?_cons_cons, List.getLast?_eq_some_getLast]
    rw [List.cons_append, cmpA, cmpA, e]
    by_cases h : y.number = p
    · rw [if_pos h, if_pos h, cmpA_snoc l p x, h]
    · rw [if_neg h, if_neg h, cmpA_snoc l y.number x]
      split <;> rfl
theorem cmpct_snoc {l : List Item} {x y : Item} (hy : l.getLast? = some y) : cmpct (l ++ [x]) = if x.number = y.number then cmpct l else cmpct l ++ [x] := by
  cases l with
  | nil => simp at hy
  | cons z l =>
    rw [List.cons_append, cmpct, cmpct, cmpA_snoc]
    have e : l.getLast?.elim z.number (·.number) = y.number := by
      cases l with
      | nil => simp at hy; subst hy; rfl
      | cons w r => rw [List.getLast?_cons_cons] at hy; rw [hy]; rfl
    rw [e]
    split <;> rfl
theorem last_getD {l : List Item} {j : Nat} (h : 0 < j) (hj : j ≤ l.length) : (l.take j).getLast? = some (l.getD (j - 1) zIt) := by
  rw [List.getLast?_take, if_neg (by omega)]
  rw [List.getElem?_eq_getElem (by omega), List.getD_eq_getElem?_getD, List.getElem?_eq_getElem (by omega)]
  rfl
theorem take_snoc {l : List Item} {j : Nat} (hj : j < l.length) : l.take (j + 1) = l.take j ++ [l.getD j zIt] := by
  rw [List.take_add_one, List.getElem?_eq_getElem hj, List.getD_eq_getElem?_getD, List.getElem?_eq_getElem hj]; rfl
theorem cmpct_step {l : List Item} {j : Nat} (h : 0 < j) (hj : j < l.length) : cmpct (l.take (j + 1)) = if (l.getD j zIt).number = (l.getD (j - 1) zIt).number then cmpct (l.take j) else cmpct (l.take j) ++ [l.getD j zIt] := by
  rw [take_snoc hj, cmpct_snoc (last_getD h (by omega))]
theorem cmpct_same {l : List Item} {j : Nat} (hj : j ≤ l.length) (h : ∀ c, 1 ≤ c → c < j → (l.getD c zIt).number ≠ (l.getD (c - 1) zIt).number) : cmpct (l.take j) = l.take j := by
  induction j with
  | zero => simp [cmpct]
  | succ j ih =>
    rcases Nat.eq_zero_or_pos j with h0 | h0
    · subst h0
      cases l with
      | nil => simp [cmpct]
      | cons x r => simp [cmpct, cmpA]
    · rw [cmpct_step h0 (by omega), if_neg (h j h0 (by omega)), ih (by omega) fun c c1 c2 => h c c1 (by omega), ← take_snoc (by omega)]
def tstN (v : Int) (x : Item) : Bool := decide (x.number = v)
/-- Those with one key keep their order. -/
theorem mg_filter {key : Item → Int} {p : Item → Bool} {S : List Item} {x : Item} (hS : KS key S) : (mg key S [x]).filter p = mg key (S.filter p) ([x].filter p) := by
  induction S with
  | nil => rw [mg_nil_l]; simp [mg_nil_l]
  | cons y S ih =>
    obtain ⟨hy, hS'⟩ := List.pairwise_cons.1 hS
    have ih := ih hS'
    rcases Int.lt_or_le (key x) (key y) with hk | hk
    · rw [mg_cons_lt hk, mg_nil_r]
      by_cases hx : p x = true
      · rw [List.filter_cons_of_pos hx, List.filter_cons_of_pos hx, List.filter_nil]
        have all : ∀ z ∈ (y :: S).filter p, key x < key z := fun z hz => by
          rcases List.mem_cons.1 (List.mem_filter.1 hz).1 with rfl | hz
          · exact hk
          · exact Int.lt_of_lt_of_le hk (hy z hz)
        have := mg_right (key := key) (y := x) (L1 := []) (L2 := (y :: S).filter p) (by simp) all
        simpa using this.symm
      · rw [List.filter_cons_of_neg hx, List.filter_cons_of_neg hx, List.filter_nil, mg_nil_r]
    · rw [mg_cons_le hk]
      by_cases hy' : p y = true
      · rw [List.filter_cons_of_pos hy', ih, List.filter_cons_of_pos hy']
        by_cases hx : p x = true
        · rw [List.filter_cons_of_pos hx, List.filter_nil, mg_cons_le hk]
        · rw [List.filter_cons_of_neg hx, List.filter_nil, mg_nil_r, mg_nil_r]
      · rw [List.filter_cons_of_neg hy', ih, List.filter_cons_of_neg hy']
theorem stS_filter {key : Item → Int} {p : Item → Bool} : ∀ l : List Item, (stS key l).filter p = stS key (l.filter p) :=
  snoc_ind rfl fun l x ih => by
    rw [stS_snoc, mg_filter (stS_sorted key l), ih, List.filter_append]
    by_cases hx : p x = true
    · rw [List.filter_cons_of_pos hx, List.filter_nil, stS_snoc]
    · rw [List.filter_cons_of_neg hx, List.filter_nil, mg_nil_r, List.append_nil]
theorem stS_same {key : Item → Int} {v : Int} : ∀ l : List Item, (∀ x ∈ l, key x = v) → stS key l = l :=
  snoc_ind (fun _ => rfl) fun l x ih h => by
    rw [stS_snoc, ih fun y hy => h y (by simp [hy])]
    have := mg_right (key := key) (y := x) (L1 := l) (L2 := []) (fun y hy => by rw [h y (by simp [hy]), h x (by simp)]; exact Int.le_refl _) (by simp)
    simpa using this
theorem stS_stable {v : Int} (l : List Item) : (stS Item.number l).filter (tstN v) = l.filter (tstN v) := by
  rw [stS_filter]
  exact stS_same (v := v) _ fun x hx => of_decide_eq_true (List.mem_filter.1 hx).2
/-- .. of numbers that are greater than p: first ones, rising. -/
theorem cmpA_spec : ∀ (S : List Item) (p : Int), KS Item.number S → (∀ x ∈ S, p ≤ x.number) →
    (cmpA p S).Pairwise (fun x y => x.number < y.number) ∧ (∀ x ∈ cmpA p S, p < x.number ∧ (S.filter (tstN x.number)).head? = some x) ∧ ∀ y ∈ S, p < y.number → ∃ x ∈ cmpA p S, x.number = y.number
  | [], p, _, _ => by simp [cmpA]
  | z :: S, p, hS, hp => by
    obtain ⟨hz, hS'⟩ := List.pairwise_cons.1 hS
    by_cases h : z.number = p
    · obtain ⟨h1, h2, h3⟩ := cmpA_spec S p hS' (fun x hx => hp x (by simp [hx]))
      rw [cmpA, if_pos h]
      refine ⟨h1, fun x hx => ?_, fun y hy hlt => ?_⟩
      · obtain ⟨a, b⟩ := h2 x hx
        refine ⟨a, ?_⟩
        rw [List.filter_cons_of_neg (by simp [tstN]; omega)]
        exact b
      · rcases List.mem_cons.1 hy with rfl | hy
        · omega
        · exact h3 y hy hlt
    · have hzp := hp z (by simp)
      obtain ⟨h1, h2, h3⟩ := cmpA_spec S z.number hS' hz
      rw [cmpA, if_neg h]
      refine ⟨List.pairwise_cons.2 ⟨fun x hx => (h2 x hx).1, h1⟩, fun x hx => ?_, fun y hy hlt => ?_⟩
      · rcases List.mem_cons.1 hx with rfl | hx
        · exact ⟨by omega, by rw [List.filter_cons_of_pos (by simp [tstN])]; rfl⟩
        · obtain ⟨a, b⟩ := h2 x hx
          refine ⟨by omega, ?_⟩
          rw [List.filter_cons_of_neg (by simp [tstN]; omega)]
          exact b
      · rcases List.mem_cons.1 hy with rfl | hy
        · exact ⟨y, by simp, rfl⟩
        · rcases Int.lt_or_le z.number y.number with hl | hl
          · obtain ⟨x, hx, e⟩ := h3 y hy hl
            exact ⟨x, by simp [hx], e⟩
          · have := hz y hy
            exact ⟨z, by simp, by omega⟩
theorem cmpct_spec (S : List Item) (hS : KS Item.number S) : (cmpct S).Pairwise (fun x y => x.number < y.number) ∧ (∀ x ∈ cmpct S, (S.filter (tstN x.number)).head? = some x) ∧ ∀ y ∈ S, ∃ x ∈ cmpct S, x.number = y.number := by
  cases S with
  | nil => simp [cmpct]
  | cons z S =>
    obtain ⟨hz, hS'⟩ := List.pairwise_cons.1 hS
    obtain ⟨h1, h2, h3⟩ := cmpA_spec S z.number hS' hz
    refine ⟨List.pairwise_cons.2 ⟨fun x hx => (h2 x hx).1, h1⟩, fun x hx => ?_, fun y hy => ?_⟩
    · rcases List.mem_cons.1 hx with rfl | hx
      · rw [List.filter_cons_of_pos (by simp [tstN])]; rfl
      · obtain ⟨a, b⟩ := h2 x hx
        rw [List.filter_cons_of_neg (by simp [tstN]; omega)]
        exact b
    · rcases List.mem_cons.1 hy with rfl | hy
      · exact ⟨y, by simp [cmpct], rfl⟩
      · rcases Int.lt_or_le z.number y.number with hl | hl
        · obtain ⟨x, hx, e⟩ := h3 y hy hl
          exact ⟨x, by simp [cmpct, hx], e⟩
        · have := hz y hy
          exact ⟨z, by simp [cmpct], by omega⟩
theorem cmpA_filter {p : Item → Bool} {v : Int} (hp : ∀ x, p x = decide (v < x.number)) : ∀ (S : List Item) (q : Int), KS Item.number S → (∀ x ∈ S, q ≤ x.number) → (cmpA q S).filter p = if v < q then cmpA q (S.filter p) else cmpct (S.filter p)
  | [], q, _, _ => by simp [cmpA, cmpct]
  | z :: S, q, hS, hq => by
    obtain ⟨hz, hS'⟩ := List.pairwise_cons.1 hS
    have hzq := hq z (by simp)
    by_cases h : z.number = q
    · rw [cmpA, if_pos h, cmpA_filter hp S q hS' fun x hx => hq x (by simp [hx])]
      by_cases hv : v < q
      · rw [if_pos hv, if_pos hv, List.filter_cons_of_pos (by rw [hp]; simp; omega), cmpA, if_pos h]
      · rw [if_neg hv, if_neg hv, List.filter_cons_of_neg (by rw [hp]; simp; omega)]
    · rw [cmpA, if_neg h]
      have ih := cmpA_filter hp S z.number hS' hz
      by_cases hv : v < z.number
      · rw [if_pos hv] at ih
        rw [List.filter_cons_of_pos (by rw [hp]; simp; omega), ih, List.filter_cons_of_pos (by rw [hp]; simp; omega)]
        by_cases hvq : v < q
        · rw [if_pos hvq, cmpA, if_neg h]
        · rw [if_neg hvq]; rfl
      · rw [if_neg hv] at ih
        rw [List.filter_cons_of_neg (by rw [hp]; simp; omega), ih, List.filter_cons_of_neg (by rw [hp]; simp; omega), if_neg (by omega)]
theorem cmpct_filter {p : Item → Bool} {v : Int} (hp : ∀ x, p x = decide (v < x.number)) (S : List Item) (hS : KS Item.number S) : (cmpct S).filter p = cmpct (S.filter p) := by
  cases S with
  | nil => simp [cmpct]
  | cons z S =>
    obtain ⟨hz, hS'⟩ := List.pairwise_cons.1 hS
    have := cmpA_filter hp S z.number hS' hz
    by_cases hv : v < z.number
    · rw [if_pos hv] at this
      rw [cmpct, List.filter_cons_of_pos (by rw [hp]; simp; omega), List.filter_cons_of_pos (by rw [hp]; simp; omega), this]; rfl
    · rw [if_neg hv] at this
      rw [cmpct, List.filter_cons_of_neg (by rw [hp]; simp; omega), List.filter_cons_of_neg (by rw [hp]; simp; omega), this]
def candI (about : Item → Bool) (act : Int) (x : Item) : Bool := about x && decide (act < x.number)
def forS (about : Item → Bool) (act : Int) (l : List Item) : List Item := cmpct (stS Item.number (l.filter (candI about act)))
theorem forS_len (about : Item → Bool) (act : Int) (l : List Item) : (forS about act l).length ≤ l.length :=
  Nat.le_trans (cmpct_len _) (by rw [stS_length]; exact List.length_filter_le _ _)
/-- What is to be done: rising, above act, each the first of its number; all numbers. -/
theorem forS_spec (about : Item → Bool) (act : Int) (l : List Item) : (forS about act l).Pairwise (fun x y => x.number < y.number) ∧
    (∀ x ∈ forS about act l, about x = true ∧ act < x.number ∧ ((l.filter (candI about act)).filter (tstN x.number)).head? = some x) ∧ ∀ y ∈ l, candI about act y = true → ∃ x ∈ forS about act l, x.number = y.number := by
  obtain ⟨h1, h2, h3⟩ := cmpct_spec _ (stS_sorted Item.number (l.filter (candI about act)))
  refine ⟨h1, fun x hx => ?_, fun y hy hc => ?_⟩
  · have h := h2 x hx
    rw [stS_stable] at h
    have hm := List.mem_of_mem_head? (Option.mem_def.2 h)
    have hm := (List.mem_filter.1 (List.mem_filter.1 hm).1).2
    simp only [candI, Bool.and_eq_true, decide_eq_true_eq] at hm
    exact ⟨hm.1, hm.2, h⟩
  · exact h3 y ((stS_mem _ _ _).2 (List.mem_filter.2 ⟨hy, hc⟩))
theorem forS_more (about : Item → Bool) {act act' : Int} (h : act ≤ act') (l : List Item) : forS about act' l = (forS about act l).filter fun x => decide (act' < x.number) := by
  unfold forS
  rw [cmpct_filter (v := act') (fun x => rfl) _ (stS_sorted _ _), stS_filter, List.filter_filter]
  congr 2
  refine List.filter_congr fun x _ => ?_
  simp only [candI]
  cases about x
  · simp
  · simp only [Bool.true_and]
    rw [Bool.eq_iff_iff]
    simp only [Bool.and_eq_true, decide_eq_true_eq]
    omega
/-- One number more: at most one item less. -/
theorem forS_one (about : Item → Bool) (act : Int) (l : List Item) : (forS about (act + 1) l).length ≤ (forS about act l).length ∧ (forS about act l).length ≤ (forS about (act + 1) l).length + 1 := by
  rw [forS_more about (show act ≤ act + 1 by omega)]
  obtain ⟨h1, h2, _⟩ := forS_spec about act l
  generalize forS about act l = F at *
  refine ⟨List.length_filter_le _ _, ?_⟩
  cases F with
  | nil => simp
  | cons x F =>
    have hx := h2 x (by simp)
    obtain ⟨hlt, _⟩ := List.pairwise_cons.1 h1
    have : F.filter (fun x => decide (act + 1 < x.number)) = F := List.filter_eq_self.2 fun y hy => by
      have := hlt y hy
      rw [decide_eq_true_eq]; omega
    by_cases h : act + 1 < x.number
    · rw [List.filter_cons_of_pos (by simpa using h), this]; simp
    · rw [List.filter_cons_of_neg (by simpa using h), this]; simp
/-- The k-th: the first among those of the least number that is above the one before. -/
theorem forS_none {about : Item → Bool} {act at_ : Int} {l : List Item} {k : Nat} (hk : k ≤ (forS about act l).length) (ha : act ≤ at_) (h0 : k = 0 → at_ = act) (hat : 0 < k → at_ = ((forS about act l).getD (k - 1) zIt).number) (hno : ∀ y ∈ l, candI about at_ y = false) : k = (forS about act l).length := by
  rcases Nat.lt_or_ge k (forS about act l).length with h | h
  · exfalso
    obtain ⟨h1, h2, h3⟩ := forS_spec about act l
    have hx := h2 ((forS about act l)[k]) (List.getElem_mem h)
    have hm := List.mem_of_mem_head? (Option.mem_def.2 hx.2.2)
    have hm := (List.mem_filter.1 (List.mem_filter.1 hm).1).1
    have hn := hno _ hm
    have hlt : at_ < ((forS about act l)[k]).number := by
      rcases Nat.eq_zero_or_pos k with e | e
      · rw [h0 e]; exact hx.2.1
      · rw [hat e, List.getD_eq_getElem?_getD, List.getElem?_eq_getElem (by omega)]
        exact List.pairwise_iff_getElem.1 h1 (k - 1) k (by omega) h (by omega)
    simp only [candI, hx.1, Bool.true_and, decide_eq_false_iff_not] at hn
    exact hn hlt
  · omega
theorem forS_best {about : Item → Bool} {act at_ : Int} {l : List Item} {k b : Nat} (hk : k ≤ (forS about act l).length) (ha : act ≤ at_) (h0 : k = 0 → at_ = act) (hat : 0 < k → at_ = ((forS about act l).getD (k - 1) zIt).number)
    (hb : b < l.length) (hc : candI about at_ (l.getD b zIt) = true) (hmin : ∀ y ∈ l, candI about at_ y = true → (l.getD b zIt).number ≤ y.number) (hfst : ∀ c, c < b → candI about at_ (l.getD c zIt) = true → (l.getD b zIt).number < (l.getD c zIt).number) :
    k < (forS about act l).length ∧ l.getD b zIt = (forS about act l).getD k zIt := by
  obtain ⟨h1, h2, h3⟩ := forS_spec about act l
  have gt : ∀ (i : Nat) (hi : i < (forS about act l).length), (forS about act l).getD i zIt = (forS about act l)[i] := fun i hi => by rw [List.getD_eq_getElem?_getD, List.getElem?_eq_getElem hi]; rfl
  have hbm : l.getD b zIt ∈ l := by rw [List.getD_eq_getElem?_getD, List.getElem?_eq_getElem hb]; exact List.getElem_mem hb
  generalize hz : l.getD b zIt = z at *
  have hc' := hc
  simp only [candI, Bool.and_eq_true, decide_eq_true_eq] at hc'
  obtain ⟨x, hx, e⟩ := h3 z hbm (by simp only [candI, Bool.and_eq_true, decide_eq_true_eq]; exact ⟨hc'.1, by omega⟩)
  obtain ⟨i, hi, rfl⟩ := List.getElem_of_mem hx
  -- its place
  have hki : k ≤ i := by
    rcases Nat.lt_or_ge i k with h | h
    · exfalso
      have := hat (by omega)
      rw [gt (k - 1) (by omega)] at this
      rcases Nat.lt_or_ge i (k - 1) with h5 | h5
      · have := List.pairwise_iff_getElem.1 h1 i (k - 1) hi (by omega) h5
        omega
      · have : i = k - 1 := by omega
        subst this
        omega
    · exact h
  have hk' : k < (forS about act l).length := by omega
  have hFk := h2 ((forS about act l)[k]) (List.getElem_mem hk')
  have hm := List.mem_of_mem_head? (Option.mem_def.2 hFk.2.2)
  have hm := (List.mem_filter.1 (List.mem_filter.1 hm).1).1
  have hlt : at_ < ((forS about act l)[k]).number := by
    rcases Nat.eq_zero_or_pos k with e | e
    · rw [h0 e]; exact hFk.2.1
    · rw [hat e, gt _ (by omega)]
      exact List.pairwise_iff_getElem.1 h1 (k - 1) k (by omega) hk' (by omega)
  have hle := hmin _ hm (by simp only [candI, Bool.and_eq_true, decide_eq_true_eq]; exact ⟨hFk.1, hlt⟩)
  have hik : i = k := by
    rcases Nat.lt_or_ge k i with h | h
    · have := List.pairwise_iff_getElem.1 h1 k i hk' hi h
      omega
    · omega
  subst hik
  refine ⟨hk', ?_⟩
  rw [gt i hk']
  -- the first of its number
  have hfilt : ∀ (m : List Item) (b : Nat), b < m.length → m.getD b zIt = z → (∀ c, c < b → candI about at_ (m.getD c zIt) = true → z.number < (m.getD c zIt).number) → ((m.filter (candI about act)).filter (tstN z.number)).head? = some z := by
    intro m
    induction m with
    | nil => intro b h; simp at h
    | cons w m ih =>
      intro b hb1 hb2 hb3
      cases b with
      | zero =>
        have : w = z := hb2
        subst this
        rw [List.filter_cons_of_pos (by simp only [candI, Bool.and_eq_true, decide_eq_true_eq]; exact ⟨hc'.1, by omega⟩), List.filter_cons_of_pos (by simp [tstN])]
        rfl
      | succ b =>
        have ih := ih b (by simpa using hb1) hb2 fun c hc => hb3 (c + 1) (by omega)
        have h0 := hb3 0 (by omega)
        simp only [List.getD_cons_zero] at h0
        by_cases hw : candI about act w = true
        · rw [List.filter_cons_of_pos hw, List.filter_cons_of_neg, ih]
          simp only [tstN, decide_eq_true_eq]
          intro e'
          have : candI about at_ w = true := by
            simp only [candI, Bool.and_eq_true, decide_eq_true_eq] at hw ⊢
            exact ⟨hw.1, by omega⟩
          have := h0 this
          omega
        · rw [List.filter_cons_of_neg hw, ih]
  have hf := hfilt l b hb hz hfst
  have := hFk.2.2
  rw [e, hf] at this
  exact Option.some.inj this
/-! Chunks that are sorted. -/
def chS (bs : Nat) : Nat → List Item → List Item
  | 0, l => l
  | f + 1, l => stS Item.number (l.take bs) ++ chS bs f (l.drop bs)
def mxS (bs F : Nat) : Nat → List Item → List Item
  | 0, l => chS bs F l
  | c + 1, l => stS Item.number (l.take (bs + bs)) ++ mxS bs F c (l.drop (bs + bs))
theorem chS_nil (bs : Nat) : ∀ f, chS bs f [] = []
  | 0 => rfl
  | f + 1 => by rw [chS, List.take_nil, List.drop_nil, chS_nil bs f]; rfl
theorem chS_more {bs : Nat} : ∀ {f F : Nat} {l : List Item}, l.length ≤ bs * f → f ≤ F → chS bs F l = chS bs f l
  | 0, F, l, h, _ => by
    have : l = [] := List.length_eq_zero_iff.1 (by simpa using h)
    subst this
    rw [chS_nil]; rfl
  | f + 1, 0, l, _, h => by omega
  | f + 1, F + 1, l, h, h' => by
    rw [chS, chS, chS_more (f := f) (F := F) (by rw [Nat.mul_succ] at h; rw [List.length_drop]; omega) (by omega)]
theorem chS_length {bs : Nat} : ∀ (f : Nat) (l : List Item), (chS bs f l).length = l.length
  | 0, l => rfl
  | f + 1, l => by rw [chS, List.length_append, stS_length, chS_length f, List.length_take, List.length_drop]; omega
theorem mxS_length {bs F : Nat} : ∀ (c : Nat) (l : List Item), (mxS bs F c l).length = l.length
  | 0, l => chS_length F l
  | c + 1, l => by rw [mxS, List.length_append, stS_length, mxS_length c, List.length_take, List.length_drop]; omega
theorem chS_all {bs F : Nat} {l : List Item} (h : l.length ≤ bs) (hF : 0 < F) : chS bs F l = stS Item.number l := by
  cases F with
  | zero => omega
  | succ F => rw [chS, List.take_of_length_le h, List.drop_of_length_le h, chS_nil, List.append_nil]
theorem ch_form {bs : Nat} : ∀ (c : Nat) (l : List Item), bs * c ≤ l.length → ∃ P S T : List Item, chS bs c l = P ++ (S ++ T) ∧ P.length = bs * c ∧ S.length = min bs (l.length - bs * c) ∧ chS bs (c + 1) l = P ++ (stS Item.number S ++ T)
  | 0, l, _ => ⟨[], l.take bs, l.drop bs, by simp [chS], by simp, by simp, by simp [chS]⟩
  | c + 1, l, h => by
    rw [Nat.mul_succ] at h
    obtain ⟨P, S, T, h1, h2, h3, h4⟩ := ch_form (bs := bs) c (l.drop bs) (by rw [List.length_drop]; omega)
    refine ⟨stS Item.number (l.take bs) ++ P, S, T, by rw [chS, h1, List.append_assoc], ?_, ?_, ?_⟩
    · rw [List.length_append, stS_length, List.length_take, h2, Nat.mul_succ]; omega
    · rw [h3, List.length_drop, Nat.mul_succ]; congr 1; omega
    · rw [chS, h4, List.append_assoc]
theorem mx_form {bs F : Nat} (hF : 2 < F) : ∀ (c : Nat) (l : List Item), (bs + bs) * c + bs < l.length → l.length ≤ bs * (F - 2) → ∃ P S1 S2 T : List Item, mxS bs F c l = P ++ (stS Item.number S1 ++ (stS Item.number S2 ++ T)) ∧ P.length = (bs + bs) * c ∧ S1.length = bs ∧ S2.length = min bs (l.length - (bs + bs) * c - bs) ∧
    mxS bs F (c + 1) l = P ++ (stS Item.number (S1 ++ S2) ++ T)
  | 0, l, h, hl => by
    obtain ⟨G, rfl⟩ : ∃ G, F = G + 2 := ⟨F - 2, by omega⟩
    have e : l.take (bs + bs) = l.take bs ++ (l.drop bs).take bs := List.take_add
    have e2 : (l.drop bs).drop bs = l.drop (bs + bs) := by rw [List.drop_drop]
    refine ⟨[], l.take bs, (l.drop bs).take bs, chS bs G (l.drop (bs + bs)), ?_, by simp, by rw [List.length_take]; omega, by rw [List.length_take, List.length_drop]; simp, ?_⟩
    · rw [mxS, chS, chS, e2, List.nil_append]
    · rw [mxS, mxS, e, List.nil_append, chS_more (f := G) (F := G + 2) (by rw [List.length_drop]; simp at hl; omega) (by omega)]
  | c + 1, l, h, hl => by
    rw [Nat.mul_succ] at h
    obtain ⟨P, S1, S2, T, h1, h2, h3, h4, h5⟩ := mx_form (bs := bs) hF c (l.drop (bs + bs)) (by rw [List.length_drop]; omega) (by rw [List.length_drop]; omega)
    refine ⟨stS Item.number (l.take (bs + bs)) ++ P, S1, S2, T, by rw [mxS, h1, List.append_assoc], ?_, h3, ?_, ?_⟩
    · rw [List.length_append, stS_length, List.length_take, h2, Nat.mul_succ]; omega
    · rw [h4, List.length_drop, Nat.mul_succ]; congr 1; omega
    · rw [mxS, h5, List.append_assoc]
theorem mx_same {bs F : Nat} (hF : 0 < F) : ∀ (c : Nat) (l : List Item), l.length ≤ (bs + bs) * c + bs → mxS bs F (c + 1) l = mxS bs F c l
  | 0, l, h => by
    have h : l.length ≤ bs := by simpa using h
    rw [mxS, mxS, mxS, chS_all h hF, List.take_of_length_le (by omega), List.drop_of_length_le (by omega), chS_nil, List.append_nil]
  | c + 1, l, h => by
    rw [Nat.mul_succ] at h
    rw [mxS, mx_same hF c (l.drop (bs + bs)) (by rw [List.length_drop]; omega)]
    conv => rhs; rw [mxS]
theorem mx_end {bs F : Nat} : ∀ (c : Nat) (l : List Item), l.length ≤ (bs + bs) * c → mxS bs F c l = chS (bs + bs) c l
  | 0, l, h => by
    have : l = [] := List.length_eq_zero_iff.1 (by simpa using h)
    subst this
    rw [mxS, chS_nil, chS_nil]
  | c + 1, l, h => by
    rw [Nat.mul_succ] at h
    rw [mxS, chS, mx_end c _ (by rw [List.length_drop]; omega)]
/-- The last block. -/
theorem st_last {c : Nat} {l : List Item} (h1 : 20 * c ≤ l.length) (h2 : l.length < 20 * c + 20) (hl : l.length ≤ 64) : insS Item.number (chS 20 c l) (20 * c) l.length = chS 20 64 l := by
  obtain ⟨P, S, T, e1, e2, e3, e4⟩ := ch_form (bs := 20) c l h1
  have hT : T = [] := by
    have := congrArg List.length e1
    rw [chS_length, List.length_append, List.length_append] at this
    exact List.length_eq_zero_iff.1 (by omega)
  rw [e1, ins_blk e2.symm (by omega), ← e4, chS_more (f := c + 1) (F := 64) (by omega) (by omega)]
theorem st_block {c : Nat} {l : List Item} (h : 20 * c + 20 ≤ l.length) : insS Item.number (chS 20 c l) (20 * c) (20 * c + 20) = chS 20 (c + 1) l := by
  obtain ⟨P, S, T, e1, e2, e3, e4⟩ := ch_form (bs := 20) c l (by omega)
  rw [e1, ins_blk e2.symm (by omega), ← e4]
theorem st_merge {bs c b : Nat} {l : List Item} (hbs : 20 ≤ bs) (hl : l.length ≤ 64) (h : (bs + bs) * c + bs < l.length) (hb : b = min ((bs + bs) * c + (bs + bs)) l.length) :
    mrg Item.number (mxS bs 64 c l) ((bs + bs) * c) ((bs + bs) * c + bs) b = mxS bs 64 (c + 1) l ∧ Mono zIt Item.number (mxS bs 64 c l) ((bs + bs) * c) ((bs + bs) * c + bs) ∧ Mono zIt Item.number (mxS bs 64 c l) ((bs + bs) * c + bs) b := by
  obtain ⟨P, S1, S2, T, e1, e2, e3, e4, e5⟩ := mx_form (bs := bs) (F := 64) (by omega) c l h (by have : 20 * 62 ≤ bs * 62 := Nat.mul_le_mul_right _ hbs; omega)
  rw [e1]
  refine ⟨?_, mono_blk e2.symm (by omega), ?_⟩
  · rw [e5]; exact mrg_blk e2.symm (by omega) (by omega)
  · have : P ++ (stS Item.number S1 ++ (stS Item.number S2 ++ T)) = (P ++ stS Item.number S1) ++ (stS Item.number S2 ++ T) := by rw [List.append_assoc]
    rw [this]
    exact mono_blk (by rw [List.length_append, stS_length]; omega) (by omega)
theorem st_round {bs c : Nat} {l : List Item} (hbs : 20 ≤ bs) (hl : l.length ≤ 64) (h : l.length ≤ (bs + bs) * c) : mxS bs 64 c l = chS (bs + bs) 64 l := by
  rw [mx_end c l h]
  rcases Nat.le_total c 64 with h1 | h1
  · exact (chS_more h h1).symm
  · exact chS_more (by have : 1 * 64 ≤ (bs + bs) * 64 := Nat.mul_le_mul_right _ (by omega); omega) h1
def ISa (data : List Item) (a b : Int) (xs : List Item) : Prop := ∃ c : Nat, a = ((20 * c : Nat) : Int) ∧ b = ((20 * c + 20 : Nat) : Int) ∧ 20 * c ≤ data.length ∧ xs = chS 20 c data
def ISb (data : List Item) (bs : Int) (xs : List Item) : Prop := ∃ q : Nat, bs = q ∧ 20 ≤ q ∧ q ≤ 128 ∧ xs = chS q 64 data
def ISc (data : List Item) (q : Nat) (a b : Int) (xs : List Item) : Prop := ∃ c : Nat, a = (((q + q) * c : Nat) : Int) ∧ b = (((q + q) * c + (q + q) : Nat) : Int) ∧ (q + q) * c ≤ data.length ∧ xs = mxS q 64 c data


def ICm (l : List Item) (i : Int) : Prop := ∃ j : Nat, i = j ∧ 1 ≤ j ∧ (j ≤ l.length ∨ j = 1) ∧ ∀ c, 1 ≤ c → c < j → (l.getD c zIt).number ≠ (l.getD (c - 1) zIt).number
def ICc (l : List Item) (k0 : Nat) (i j : Int) (xs : List Item) : Prop := ∃ q : Nat, j = q ∧ 1 ≤ q ∧ k0 + q ≤ l.length ∧ i = (cmpct (l.take (k0 + q))).length ∧ (cmpct (l.take (k0 + q))).length < k0 + q ∧ xs = cmpct (l.take (k0 + q)) ++ l.drop (cmpct (l.take (k0 + q))).length
theorem cm_start {s : List Item} {j : Nat} (h1 : 1 ≤ j) (h2 : j < s.length) (h3 : ∀ c, 1 ≤ c → c < j → (s.getD c zIt).number ≠ (s.getD (c - 1) zIt).number) (he : (s.getD j zIt).number = (s.getD (j - 1) zIt).number) : ICc s j (j : Int) 1 s := by
  have e : cmpct (s.take (j + 1)) = s.take j := by rw [cmpct_step h1 h2, if_pos he, cmpct_same (by omega) h3]
  have l : (s.take j).length = j := by rw [List.length_take]; omega
  exact ⟨1, rfl, Nat.le_refl _, by omega, by rw [e, l], by rw [e, l]; omega, by rw [e, l, List.take_append_drop]⟩
theorem cm_new {s : List Item} {j q : Nat} (h1 : 1 ≤ q) (h2 : j + q < s.length) (h3 : (cmpct (s.take (j + q))).length < j + q) (hn : (s.getD (j + q) zIt).number ≠ (s.getD (j + q - 1) zIt).number) :
    ICc s j (((cmpct (s.take (j + q))).length + 1 : Nat) : Int) ((q + 1 : Nat) : Int) ((cmpct (s.take (j + q)) ++ s.drop (cmpct (s.take (j + q))).length).set (cmpct (s.take (j + q))).length (s.getD (j + q) zIt)) := by
  have e : cmpct (s.take (j + (q + 1))) = cmpct (s.take (j + q)) ++ [s.getD (j + q) zIt] := by rw [← Nat.add_assoc, cmpct_step (by omega) h2, if_neg hn]
  refine ⟨q + 1, rfl, by omega, by omega, ?_, ?_, ?_⟩
  · rw [e, List.length_append]; rfl
  · rw [e, List.length_append, List.length_singleton]; omega
  · rw [e, List.length_append, List.length_singleton, List.set_append_right _ _ (Nat.le_refl _), Nat.sub_self, List.append_assoc]
    congr 1
    rw [List.drop_eq_getElem_cons (by omega)]
    rfl
theorem cm_old {s : List Item} {j q : Nat} (h1 : 1 ≤ q) (h2 : j + q < s.length) (h3 : (cmpct (s.take (j + q))).length < j + q) (hn : (s.getD (j + q) zIt).number = (s.getD (j + q - 1) zIt).number) :
    ICc s j ((cmpct (s.take (j + q))).length : Int) ((q + 1 : Nat) : Int) (cmpct (s.take (j + q)) ++ s.drop (cmpct (s.take (j + q))).length) := by
  have e : cmpct (s.take (j + (q + 1))) = cmpct (s.take (j + q)) := by rw [← Nat.add_assoc, cmpct_step (by omega) h2, if_pos hn]
  exact ⟨q + 1, rfl, by omega, by omega, by rw [e], by rw [e]; omega, by rw [e]⟩
theorem cm_end {X s : List Item} (h : X.length ≤ s.length) : splice (X ++ s.drop X.length) X.length (List.replicate ((X ++ s.drop X.length).length - X.length) zIt) = X ++ List.replicate (s.length - X.length) zIt := by
  have : (X ++ s.drop X.length).length = s.length := by rw [List.length_append, List.length_drop]; omega
  rw [this, splice, List.take_left, List.length_replicate, List.drop_of_length_le (by omega), List.append_nil]
theorem cm_id {s : List Item} (h3 : ∀ c, 1 ≤ c → c < s.length → (s.getD c zIt).number ≠ (s.getD (c - 1) zIt).number) : s = cmpct s ++ List.replicate (s.length - (cmpct s).length) zIt ∧ s.length = (cmpct s).length := by
  have := cmpct_same (Nat.le_refl _) h3
  rw [List.take_length] at this
  rw [this, Nat.sub_self]
  exact ⟨by simp, rfl⟩


end Go.Proofs.Ythbmllekbbfobaa.Sx
