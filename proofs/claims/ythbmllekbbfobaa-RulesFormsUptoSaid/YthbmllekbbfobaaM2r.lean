import Derived.Test.YthbmllekbbfobaaProg
import Derived.Test.YthbmllekbbfobaaSxU
import Derived.IntWalk
import Derived.Test.YthbmllekbbfobaaM1
/-! money, Split -/
namespace Go.Proofs.Ythbmllekbbfobaa.Sx
open Go
set_option linter.unusedVariables false
set_option linter.unusedSimpArgs false
set_option maxRecDepth 100000

/-- f told up to m, then noughts. -/
def fillTo (f : Nat → Int) (m n : Nat) : List Int := (List.range m).map f ++ List.replicate (n - m) 0
theorem fillTo_length {f : Nat → Int} {m n : Nat} (h : m ≤ n) : (fillTo f m n).length = n := by simp [fillTo]; omega
theorem fillTo_zero {f : Nat → Int} {n : Nat} : fillTo f 0 n = List.replicate n 0 := by simp [fillTo]
theorem fillTo_full {f : Nat → Int} {n : Nat} : fillTo f n n = (List.range n).map f := by simp [fillTo]
theorem fillTo_set {f : Nat → Int} {m n : Nat} (h : m < n) : (fillTo f m n).set m (f m) = fillTo f (m + 1) n := by
  unfold fillTo
  obtain ⟨k, hk⟩ : ∃ k, n - m = k + 1 := ⟨n - m - 1, by omega⟩
  rw [hk, show n - (m + 1) = k by omega, List.replicate_succ, List.set_append_right _ _ (by simp), List.length_map, List.length_range, Nat.sub_self, List.range_succ, List.map_append]
  simp
theorem fillTo_get {f : Nat → Int} {m n i : Nat} (h : i < m) : (fillTo f m n).getD i 0 = f i := by
  unfold fillTo
  simp only [List.getD]
  rw [List.getElem?_append_left (by simp [h])]
  simp [h]
def mapTo (f : Nat → Int) (n : Nat) : List Int := (List.range n).map f
theorem mapTo_length {f : Nat → Int} {n : Nat} : (mapTo f n).length = n := by simp [mapTo]
theorem mapTo_get {f : Nat → Int} {n i : Nat} (h : i < n) : (mapTo f n).getD i 0 = f i := by simp [mapTo, List.getD, h]
theorem mapTo_congr {f g : Nat → Int} {n : Nat} (h : ∀ i, i < n → f i = g i) : mapTo f n = mapTo g n := by
  unfold mapTo
  exact List.map_congr_left fun i hi => h i (List.mem_range.1 hi)
theorem mapTo_set {f g : Nat → Int} {n i : Nat} {x : Int} (h : i < n) (hx : x = g i) (hg : ∀ k, k < n → k ≠ i → f k = g k) : (mapTo f n).set i x = mapTo g n := by
  apply List.ext_getElem?
  intro k
  by_cases e : i = k
  · subst e
    rw [List.getElem?_set_self (by rw [mapTo_length]; exact h)]
    simp [mapTo, h, hx]
  · rw [List.getElem?_set_ne e]
    by_cases hk : k < n
    · simp [mapTo, hk, hg k hk (fun h => e h.symm)]
    · simp [mapTo, hk]
theorem mapTo_succ {f : Nat → Int} {n : Nat} : mapTo f (n + 1) = mapTo f n ++ [f n] := by simp [mapTo, List.range_succ]
theorem mapTo_sum_succ {f : Nat → Int} {n : Nat} : (mapTo f (n + 1)).sum = (mapTo f n).sum + f n := by rw [mapTo_succ]; simp
theorem mapTo_sum_add {f g : Nat → Int} : ∀ {n : Nat}, (mapTo (fun i => f i + g i) n).sum = (mapTo f n).sum + (mapTo g n).sum
  | 0 => rfl
  | n + 1 => by rw [mapTo_sum_succ, mapTo_sum_succ, mapTo_sum_succ, mapTo_sum_add (n := n)]; omega
theorem mapTo_sum_mul {f : Nat → Int} {c : Int} : ∀ {n : Nat}, (mapTo (fun i => c * f i) n).sum = c * (mapTo f n).sum
  | 0 => by simp [mapTo]
  | n + 1 => by rw [mapTo_sum_succ, mapTo_sum_succ, mapTo_sum_mul (n := n), Int.mul_add]
theorem mapTo_sum_le {f g : Nat → Int} : ∀ {n : Nat}, (∀ i, i < n → f i ≤ g i) → (mapTo f n).sum ≤ (mapTo g n).sum
  | 0, _ => Int.le_refl _
  | n + 1, h => by
    rw [mapTo_sum_succ, mapTo_sum_succ]
    have := mapTo_sum_le (n := n) fun i hi => h i (by omega)
    have := h n (by omega)
    omega
theorem mapTo_sum_lt {f g : Nat → Int} : ∀ {n : Nat}, 0 < n → (∀ i, i < n → f i < g i) → (mapTo f n).sum < (mapTo g n).sum
  | 0, h0, _ => absurd h0 (by omega)
  | n + 1, _, h => by
    rw [mapTo_sum_succ, mapTo_sum_succ]
    have := mapTo_sum_le (n := n) fun i hi => Int.le_of_lt (h i (by omega))
    have := h n (by omega)
    omega
theorem mapTo_sum_const {c : Int} : ∀ {n : Nat}, (mapTo (fun _ => c) n).sum = c * n
  | 0 => by simp [mapTo]
  | n + 1 => by rw [mapTo_sum_succ, mapTo_sum_const (n := n)]; push_cast; rw [Int.mul_add, Int.mul_one]
theorem mapTo_sum_nonneg {f : Nat → Int} {n : Nat} (h : ∀ i, i < n → 0 ≤ f i) : 0 ≤ (mapTo f n).sum := by
  have := mapTo_sum_le (f := fun _ => 0) (n := n) h
  rw [mapTo_sum_const] at this
  omega
theorem list_mapTo (ws : List Int) : mapTo (fun i => ws.getD i 0) ws.length = ws := by
  apply List.ext_getElem?
  intro k
  by_cases hk : k < ws.length
  · simp [mapTo, hk, List.getD]
  · simp [mapTo, hk]
/-- Who comes ahead of whom. -/
def ahead (key : Int → Int) (x y : Int) : Prop := key y < key x ∨ (key x = key y ∧ x < y)
instance (key : Int → Int) (x y : Int) : Decidable (ahead key x y) := by unfold ahead; infer_instance
theorem ahead_irrefl {key : Int → Int} {x : Int} : ¬ ahead key x x := by unfold ahead; omega
theorem ahead_asymm {key : Int → Int} {x y : Int} (h : ahead key x y) : ¬ ahead key y x := by unfold ahead at *; omega
theorem ahead_total {key : Int → Int} {x y : Int} (h : x ≠ y) : ahead key x y ∨ ahead key y x := by unfold ahead; omega
theorem ahead_trans {key : Int → Int} {x y z : Int} (h : ahead key x y) (h' : ahead key y z) : ahead key x z := by unfold ahead at *; omega
theorem insRev_perm {key : Int → Int} {x : Int} : ∀ {l : List Int}, (insRev key x l).Perm (x :: l)
  | [] => List.Perm.refl _
  | y :: r => by
    simp only [insRev]
    split
    · exact (insRev_perm.cons y).trans (List.Perm.swap x y r)
    · exact List.Perm.refl _
theorem insRev_sorted {key : Int → Int} {x : Int} : ∀ {l : List Int}, l.Pairwise (fun u v => ahead key v u) → (∀ y ∈ l, y < x) → (insRev key x l).Pairwise (fun u v => ahead key v u)
  | [], _, _ => by simp [insRev]
  | y :: r, h, hx => by
    obtain ⟨h1, h2⟩ := List.pairwise_cons.1 h
    have hy := hx y (by simp)
    simp only [insRev]
    split
    · rename_i hk
      refine List.pairwise_cons.2 ⟨fun v hv => ?_, insRev_sorted h2 fun z hz => hx z (by simp [hz])⟩
      rcases insRev_mem.1 hv with rfl | hv
      · exact .inl hk
      · exact h1 v hv
    · rename_i hk
      refine List.pairwise_cons.2 ⟨fun v hv => ?_, h⟩
      have hyx : ahead key y x := by unfold ahead; omega
      rcases List.mem_cons.1 hv with rfl | hv
      · exact hyx
      · exact ahead_trans (h1 v hv) hyx
theorem insD_sorted {key : Int → Int} {x : Int} {l : List Int} (h : l.Pairwise (ahead key)) (hx : ∀ y ∈ l, y < x) : (insD key x l).Pairwise (ahead key) := by
  unfold insD
  rw [List.pairwise_reverse]
  exact insRev_sorted (List.pairwise_reverse.2 h) fun y hy => hx y (by simpa using hy)
theorem insD_perm {key : Int → Int} {x : Int} {l : List Int} : (insD key x l).Perm (x :: l) := by
  unfold insD
  exact (List.reverse_perm _).trans (insRev_perm.trans ((List.reverse_perm l).cons x))
def idxs (n : Nat) : List Int := (List.range n).map fun i : Nat => (i : Int)
theorem idxs_eq (n : Nat) : idxs n = mapTo (fun i : Nat => (i : Int)) n := rfl
theorem idxs_succ (n : Nat) : idxs (n + 1) = idxs n ++ [(n : Int)] := by simp [idxs, List.range_succ]
theorem idxs_mem {n : Nat} {i : Int} : i ∈ idxs n ↔ 0 ≤ i ∧ i < n := by
  unfold idxs
  rw [List.mem_map]
  constructor
  · rintro ⟨k, hk, rfl⟩
    have := List.mem_range.1 hk
    omega
  · intro h
    exact ⟨i.toNat, List.mem_range.2 (by omega), by omega⟩
theorem idxs_length (n : Nat) : (idxs n).length = n := by simp [idxs]
theorem sortD_perm {key : Int → Int} (l : List Int) : (sortD key l).Perm l := by
  induction l using rev_ind with
  | h0 => exact List.Perm.refl _
  | h1 l x ih =>
    rw [sortD_snoc]
    refine insD_perm.trans ((ih.cons x).trans ?_)
    exact (List.perm_append_comm (l₁ := [x]) (l₂ := l))
theorem sortD_sorted {key : Int → Int} : ∀ n, (sortD key (idxs n)).Pairwise (ahead key)
  | 0 => by simp [idxs, sortD]
  | n + 1 => by
    rw [idxs_succ, sortD_snoc]
    exact insD_sorted (sortD_sorted n) fun y hy => (idxs_mem.1 ((sortD_mem _).1 hy)).2
/-- How many come ahead of i. -/
def rank (key : Int → Int) (n : Nat) (i : Int) : Nat := ((idxs n).filter fun j => decide (ahead key j i)).length
theorem rank_split {key : Int → Int} {n : Nat} {i : Int} {A B : List Int} (h : sortD key (idxs n) = A ++ i :: B) : rank key n i = A.length := by
  have hs := sortD_sorted (key := key) n
  rw [h] at hs
  have hp : rank key n i = ((A ++ i :: B).filter fun j => decide (ahead key j i)).length := by
    unfold rank
    rw [← h]
    exact ((sortD_perm (key := key) (idxs n)).filter _).length_eq.symm
  obtain ⟨h1, h2, h3⟩ := List.pairwise_append.1 hs
  obtain ⟨h4, h5⟩ := List.pairwise_cons.1 h2
  rw [hp, List.filter_append, List.filter_eq_self.2 fun a ha => decide_eq_true (h3 a ha i (by simp)), List.filter_cons, if_neg (by simp [ahead_irrefl]), List.filter_eq_nil_iff.2 fun a ha => by simpa using ahead_asymm (h4 a ha)]
  simp
/-- The first of the sorted are those of low rank. -/
theorem take_rank {key : Int → Int} {n k : Nat} {i : Int} (hi : 0 ≤ i) (hi' : i < n) : i ∈ (sortD key (idxs n)).take k ↔ rank key n i < k := by
  have hm : i ∈ sortD key (idxs n) := (sortD_mem _).2 (idxs_mem.2 ⟨hi, hi'⟩)
  obtain ⟨A, B, h⟩ := List.append_of_mem hm
  have hr := rank_split h
  have hnd : (A ++ i :: B).Pairwise (ahead key) := by rw [← h]; exact sortD_sorted n
  rw [hr, h]
  constructor
  · intro hk
    rcases Nat.lt_or_ge A.length k with h1 | h1
    · exact h1
    · exfalso
      rw [List.take_append_of_le_length h1] at hk
      obtain ⟨_, _, h3⟩ := List.pairwise_append.1 hnd
      exact ahead_irrefl (h3 i (List.mem_of_mem_take hk) i (by simp))
  · intro hk
    rw [List.take_append, List.mem_append]
    right
    obtain ⟨m, hm⟩ : ∃ m, k - A.length = m + 1 := ⟨k - A.length - 1, by omega⟩
    rw [hm, List.take_succ_cons]
    simp
theorem rank_at {key : Int → Int} {n k : Nat} (hk : k < n) : rank key n ((sortD key (idxs n)).getD k 0) = k := by
  have hl : (sortD key (idxs n)).length = n := by rw [sortD_length, idxs_length]
  have h : sortD key (idxs n) = (sortD key (idxs n)).take k ++ (sortD key (idxs n)).getD k 0 :: (sortD key (idxs n)).drop (k + 1) := by
    rw [← drop_getD (by omega), List.take_append_drop]
  rw [rank_split h, List.length_take]
  omega
theorem at_mem {key : Int → Int} {n k : Nat} (hk : k < n) : 0 ≤ (sortD key (idxs n)).getD k 0 ∧ (sortD key (idxs n)).getD k 0 < n :=
  idxs_mem.1 ((sortD_mem _).1 (mem_getD (by rw [sortD_length, idxs_length]; exact hk)))
theorem rank_lt {key : Int → Int} {n : Nat} {i : Int} (hi : 0 ≤ i) (hi' : i < n) : rank key n i < n := by
  have := (take_rank (key := key) (k := n) hi hi').1 (by
    rw [List.take_of_length_le (by rw [sortD_length, idxs_length]; exact Nat.le_refl _)]
    exact (sortD_mem _).2 (idxs_mem.2 ⟨hi, hi'⟩))
  exact this
theorem ahead_rank {key : Int → Int} {n : Nat} {i j : Int} (hi : 0 ≤ i) (hi' : i < n) (hj : 0 ≤ j) (hj' : j < n) : rank key n i < rank key n j ↔ ahead key i j := by
  have main : ∀ {i j : Int}, 0 ≤ i → i < n → ahead key i j → rank key n i < rank key n j := by
    intro i j hi hi' h
    have hm : i ∈ sortD key (idxs n) := (sortD_mem _).2 (idxs_mem.2 ⟨hi, hi'⟩)
    unfold rank
    have h1 : ((idxs n).filter fun k => decide (ahead key k j)).length = ((idxs n).filter fun k => decide (ahead key k i)).length + ((idxs n).filter fun k => decide (ahead key k j ∧ ¬ ahead key k i)).length := by
      generalize idxs n = l
      induction l with
      | nil => rfl
      | cons a l ih =>
        simp only [List.filter_cons]
        by_cases h1 : ahead key a i
        · simp [h1, ahead_trans h1 h, ih]; omega
        · by_cases h2 : ahead key a j
          · simp [h1, h2, ih]; omega
          · simp [h1, h2, ih]
    have h2 : 0 < ((idxs n).filter fun k => decide (ahead key k j ∧ ¬ ahead key k i)).length := by
      refine List.length_pos_of_mem (a := i) (List.mem_filter.2 ⟨idxs_mem.2 ⟨hi, hi'⟩, ?_⟩)
      simp [h, ahead_irrefl]
    omega
  refine ⟨fun h => ?_, main hi hi'⟩
  rcases Decidable.em (i = j) with rfl | hne
  · omega
  · rcases ahead_total (key := key) hne with h1 | h1
    · exact h1
    · have := main hj hj' h1; omega
def bonus (key : Int → Int) (n k : Nat) (i : Nat) : Int := if rank key n (i : Int) < k then 1 else 0
/-- The next one that gets a unit. -/
theorem bonus_next {key : Int → Int} {n k : Nat} (h : k < n) : ∃ t : Nat, t < n ∧ (sortD key (idxs n)).getD k 0 = t ∧ bonus key n k t = 0 ∧ ∀ i, i < n → bonus key n (k + 1) i = bonus key n k i + (if i = t then 1 else 0) := by
  have hm := at_mem (key := key) (n := n) (k := k) h
  have hr := rank_at (key := key) (n := n) (k := k) h
  generalize (sortD key (idxs n)).getD k 0 = t at hm hr
  obtain ⟨t, rfl⟩ : ∃ q : Nat, t = q := ⟨t.toNat, by omega⟩
  refine ⟨t, by omega, rfl, by unfold bonus; rw [if_neg (by omega)], fun i hi => ?_⟩
  unfold bonus
  by_cases e : i = t
  · subst e
    rw [if_pos (by omega), if_neg (by omega), if_pos rfl]; rfl
  · rw [if_neg e]
    have : rank key n (i : Int) ≠ k := by
      intro h1
      have h3 : ¬ ahead key (i : Int) (t : Int) := fun h => by have := (ahead_rank (key := key) (n := n) (i := i) (j := t) (by omega) (by omega) (by omega) (by omega)).2 h; omega
      have h4 : ¬ ahead key (t : Int) (i : Int) := fun h => by have := (ahead_rank (key := key) (n := n) (i := t) (j := i) (by omega) (by omega) (by omega) (by omega)).2 h; omega
      rcases ahead_total (key := key) (x := (i : Int)) (y := (t : Int)) (by omega) with h | h
      · exact h3 h
      · exact h4 h
    by_cases h2 : rank key n (i : Int) < k
    · rw [if_pos (by omega), if_pos h2]; rfl
    · rw [if_neg (by omega), if_neg h2]; rfl
theorem bonus_sum {key : Int → Int} {n : Nat} : ∀ {k : Nat}, k ≤ n → (mapTo (bonus key n k) n).sum = k
  | 0, _ => by
    rw [mapTo_congr (g := fun _ => 0) fun i _ => by simp [bonus], mapTo_sum_const]; simp
  | k + 1, h => by
    have ih := bonus_sum (key := key) (n := n) (k := k) (by omega)
    obtain ⟨t, ht, _, _, e⟩ := bonus_next (key := key) (n := n) (k := k) (by omega)
    have one : ∀ m, (mapTo (fun i => if i = t then (1 : Int) else 0) m).sum = if t < m then 1 else 0 := by
      intro m
      induction m with
      | zero => simp [mapTo]
      | succ m ih =>
        rw [mapTo_sum_succ, ih]
        by_cases h1 : t < m
        · rw [if_pos h1, if_neg (by omega), if_pos (by omega)]; rfl
        · rw [if_neg h1]
          by_cases h2 : m = t
          · rw [if_pos h2, if_pos (by omega)]; rfl
          · rw [if_neg h2, if_neg (by omega)]; rfl
    rw [mapTo_congr e, mapTo_sum_add, ih, one n, if_pos ht]
    push_cast
    rfl
/-! Split. -/
def allM (ws : List Int) : Int := ws.sum
def qM (a : Int) (ws : List Int) (i : Nat) : Int := a * ws.getD i 0 / allM ws
def leftM (a : Int) (ws : List Int) : Int := a - (mapTo (qM a ws) ws.length).sum
def kM (a : Int) (ws : List Int) : Int → Int := keyM a ws (allM ws)
def shareM (a : Int) (ws : List Int) (i : Nat) : Int := qM a ws i + bonus (kM a ws) ws.length (leftM a ws).toNat i
def splitE (a : Int) (ws : List Int) : Int := if rightM a ws then 0 else 2
def splitL (a : Int) (ws : List Int) : List Int := if rightM a ws then mapTo (shareM a ws) ws.length else []
theorem rightM_iff {a : Int} {ws : List Int} : rightM a ws = true ↔ 0 ≤ a ∧ a ≤ 2147483648 ∧ ws.length ≤ 16 ∧ (∀ w ∈ ws, 0 ≤ w ∧ w ≤ 1000) ∧ 0 < allM ws := by
  unfold rightM
  simp only [Bool.and_eq_true, decide_eq_true_eq, List.all_eq_true, List.any_eq_true]
  have key : ∀ ws : List Int, (∀ w ∈ ws, 0 ≤ w ∧ w ≤ 1000) → ((∃ x, x ∈ ws ∧ 0 < x) ↔ 0 < ws.sum) ∧ 0 ≤ ws.sum := by
    intro ws
    induction ws with
    | nil => intro _; simp
    | cons w ws ih =>
      intro h
      obtain ⟨h1, h2⟩ := ih fun x hx => h x (by simp [hx])
      have h3 := h w (by simp)
      simp only [List.sum_cons, List.mem_cons]
      refine ⟨⟨?_, fun hs => ?_⟩, by omega⟩
      · rintro ⟨x, rfl | hx, h0⟩
        · omega
        · have := h1.1 ⟨x, hx, h0⟩; omega
      · by_cases hw : 0 < w
        · exact ⟨w, .inl rfl, hw⟩
        · obtain ⟨x, hx, h0⟩ := h1.2 (by omega)
          exact ⟨x, .inr hx, h0⟩
  constructor
  · rintro ⟨⟨⟨⟨h1, h2⟩, h3⟩, h4⟩, h5⟩
    exact ⟨h1, h2, h3, h4, ((key ws h4).1).1 h5⟩
  · rintro ⟨h1, h2, h3, h4, h5⟩
    exact ⟨⟨⟨⟨h1, h2⟩, h3⟩, h4⟩, ((key ws h4).1).2 h5⟩
structure GoodM (a : Int) (ws : List Int) : Prop where
  a0 : 0 ≤ a
  a1 : a ≤ 2147483648
  len : ws.length ≤ 16
  len0 : 0 < ws.length
  w : ∀ w ∈ ws, 0 ≤ w ∧ w ≤ 1000
  all0 : 0 < allM ws
  all1 : allM ws ≤ 16000
theorem sum_le {c : Int} : ∀ {ws : List Int}, (∀ w ∈ ws, w ≤ c) → ws.sum ≤ c * ws.length
  | [], _ => by simp
  | w :: ws, h => by
    have h1 := sum_le (ws := ws) fun x hx => h x (by simp [hx])
    have h2 := h w (by simp)
    simp only [List.sum_cons, List.length_cons]
    push_cast
    rw [Int.mul_add, Int.mul_one]
    omega
theorem goodM {a : Int} {ws : List Int} (h : rightM a ws = true) : GoodM a ws := by
  obtain ⟨h1, h2, h3, h4, h5⟩ := rightM_iff.1 h
  refine ⟨h1, h2, h3, ?_, h4, h5, ?_⟩
  · cases ws with
    | nil => simp [allM] at h5
    | cons w ws => simp
  · have := sum_le (c := 1000) fun w hw => (h4 w hw).2
    show ws.sum ≤ 16000
    omega
theorem GoodM.at {a : Int} {ws : List Int} (h : GoodM a ws) {i : Nat} (hi : i < ws.length) : 0 ≤ ws.getD i 0 ∧ ws.getD i 0 ≤ 1000 ∧ 0 ≤ a * ws.getD i 0 ∧ a * ws.getD i 0 ≤ 2147483648000 := by
  have hw := h.w _ (mem_getD (d := (0 : Int)) hi)
  have := mulM h.a0 h.a1 hw.1 hw.2
  exact ⟨hw.1, hw.2, this⟩
theorem GoodM.ok {a : Int} {ws : List Int} (h : GoodM a ws) : OkM a ws (allM ws) := ⟨h.a0, h.a1, h.len, h.w, h.all0, h.all1⟩
theorem GoodM.q {a : Int} {ws : List Int} (h : GoodM a ws) {i : Nat} (hi : i < ws.length) : 0 ≤ qM a ws i ∧ qM a ws i ≤ 2147483648000 ∧ a * ws.getD i 0 = qM a ws i * allM ws + kM a ws i ∧ 0 ≤ kM a ws i ∧ kM a ws i < allM ws := by
  obtain ⟨h1, h2, h3, h4⟩ := h.at hi
  have h0 := h.all0
  unfold qM kM keyM
  rw [Int.toNat_natCast]
  refine ⟨Int.ediv_nonneg h3 (by omega), Int.le_trans (Int.ediv_le_self _ h3) h4, ?_, Int.emod_nonneg _ (by omega), Int.emod_lt_of_pos _ h0⟩
  rw [Int.mul_comm (_ / _)]
  exact (Int.mul_ediv_add_emod _ _).symm
/-- All rests together are so many times the sum of weights. -/
theorem GoodM.left {a : Int} {ws : List Int} (h : GoodM a ws) : leftM a ws * allM ws = (mapTo (fun i => kM a ws i) ws.length).sum := by
  have h1 : (mapTo (fun i => a * ws.getD i 0) ws.length).sum = a * allM ws := by
    rw [mapTo_sum_mul (f := fun i => ws.getD i 0), list_mapTo]; rfl
  rw [mapTo_congr (g := fun i => allM ws * qM a ws i + kM a ws i) (fun i hi => by rw [(h.q hi).2.2.1, Int.mul_comm]), mapTo_sum_add, mapTo_sum_mul] at h1
  unfold leftM
  rw [Int.sub_mul, Int.mul_comm (mapTo (qM a ws) ws.length).sum (allM ws)]
  omega
theorem GoodM.left_in {a : Int} {ws : List Int} (h : GoodM a ws) : 0 ≤ leftM a ws ∧ leftM a ws < ws.length := by
  have h1 := h.left
  have h2 := mapTo_sum_nonneg (f := fun i => kM a ws i) (n := ws.length) fun i hi => (h.q hi).2.2.2.1
  have h3 := mapTo_sum_lt (f := fun i => kM a ws i) (g := fun _ => allM ws) h.len0 fun i hi => (h.q hi).2.2.2.2
  rw [mapTo_sum_const, ← h1, Int.mul_comm] at h3
  rw [← h1] at h2
  have h0 := h.all0
  refine ⟨?_, Int.lt_of_mul_lt_mul_left h3 (Int.le_of_lt h0)⟩
  rcases Int.lt_or_le (leftM a ws) 0 with hn | hn
  · have := Int.mul_neg_of_neg_of_pos hn h0; omega
  · exact hn
theorem GoodM.share {a : Int} {ws : List Int} (h : GoodM a ws) {i : Nat} (hi : i < ws.length) : qM a ws i ≤ shareM a ws i ∧ shareM a ws i ≤ qM a ws i + 1 := by
  unfold shareM bonus
  split <;> omega
theorem GoodM.sum {a : Int} {ws : List Int} (h : GoodM a ws) : (mapTo (shareM a ws) ws.length).sum = a := by
  have h1 := h.left_in
  have : (mapTo (shareM a ws) ws.length).sum = (mapTo (qM a ws) ws.length).sum + (mapTo (bonus (kM a ws) ws.length (leftM a ws).toNat) ws.length).sum := mapTo_sum_add
  rw [this, bonus_sum (by omega)]
  unfold leftM at *
  omega

def ISp (a : Int) (ws : List Int) (i left : Int) (sh od : List Int) : Prop := ∃ m : Nat, m ≤ ws.length ∧ i = m ∧ left = a - (mapTo (qM a ws) m).sum ∧ sh = fillTo (qM a ws) m ws.length ∧ od = fillTo (fun i : Nat => (i : Int)) m ws.length
def upM (a : Int) (ws : List Int) (k : Nat) (i : Nat) : Int := qM a ws i + bonus (kM a ws) ws.length k i
def IUp (a : Int) (ws : List Int) (j : Int) (sh : List Int) : Prop := ∃ k : Nat, k ≤ (leftM a ws).toNat ∧ j = k ∧ sh = mapTo (upM a ws k) ws.length
theorem isp_zero {a : Int} {ws : List Int} : ISp a ws 0 a (List.replicate ws.length 0) (List.replicate ws.length 0) := ⟨0, Nat.zero_le _, rfl, by simp [mapTo], fillTo_zero.symm, fillTo_zero.symm⟩
theorem GoodM.part {a : Int} {ws : List Int} (h : GoodM a ws) {m : Nat} (hm : m ≤ ws.length) : 0 ≤ (mapTo (qM a ws) m).sum ∧ (mapTo (qM a ws) m).sum ≤ 34359738368000 := by
  have h1 := mapTo_sum_nonneg (f := qM a ws) (n := m) fun i hi => (h.q (by omega)).1
  have h2 := mapTo_sum_le (f := qM a ws) (g := fun _ => 2147483648000) (n := m) fun i hi => (h.q (by omega)).2.1
  rw [mapTo_sum_const] at h2
  have := h.len
  omega
theorem GoodM.sumV {a : Int} {ws : List Int} (h : GoodM a ws) : Sx.sumV ws = allM ws := by
  unfold Sx.sumV
  rw [sumGo_sum (fun n hn => by have := h.w n hn; omega) (by decide) (by have := h.len; omega)]
  simp [allM]
/-- What the first loop does. -/
theorem isp_more {a : Int} {ws : List Int} {i left : Int} {sh od : List Int} (hG : GoodM a ws) (h : ISp a ws i left sh od) (hi : i < ws.length) :
    0 ≤ i ∧ sh.length = ws.length ∧ od.length = ws.length ∧ IntKind.i64.wrap (IntKind.i64.wrap (a * ws.getD i.toNat 0) |>.tdiv (allM ws)) = qM a ws i.toNat ∧ (sh.set i.toNat (qM a ws i.toNat)).getD i.toNat 0 = qM a ws i.toNat ∧
      ISp a ws (IntKind.i64.wrap (i + 1)) (IntKind.i64.wrap (left - qM a ws i.toNat)) (sh.set i.toNat (qM a ws i.toNat)) (od.set i.toNat i) ∧ ws.length - (IntKind.i64.wrap (i + 1)).toNat < ws.length - i.toNat := by
  obtain ⟨m, hm, rfl, rfl, rfl, rfl⟩ := h
  have hm' : m < ws.length := by omega
  simp only [Int.toNat_natCast]
  obtain ⟨w1, w2, w3, w4⟩ := hG.at hm'
  obtain ⟨q1, q2, q3, q4, q5⟩ := hG.q hm'
  obtain ⟨p1, p2⟩ := hG.part hm
  have hl := hG.len
  have a0 := hG.a0
  have a1 := hG.a1
  refine ⟨by omega, fillTo_length hm, fillTo_length hm, ?_, ?_, ?_, ?_⟩
  · rw [wrap64 (n := a * _) (by omega) (by omega), Int.tdiv_eq_ediv_of_nonneg w3]
    exact wrap64 (by show _ ≤ qM a ws m; omega) (by show qM a ws m ≤ _; omega)
  · rw [fillTo_set hm', fillTo_get (by omega)]
  · rw [wrap64 (n := (m : Int) + 1) (by omega) (by omega), wrap64 (by omega) (by omega)]
    exact ⟨m + 1, by omega, rfl, by rw [mapTo_sum_succ]; omega, fillTo_set hm', fillTo_set (f := fun i : Nat => (i : Int)) hm'⟩
  · rw [wrap64 (by omega) (by omega)]; omega
theorem isp_end {a : Int} {ws : List Int} {i left : Int} {sh od : List Int} (h : ISp a ws i left sh od) (hi : ws.length ≤ i) : left = leftM a ws ∧ sh = mapTo (qM a ws) ws.length ∧ od = idxs ws.length := by
  obtain ⟨m, hm, rfl, rfl, rfl, rfl⟩ := h
  obtain rfl : m = ws.length := by omega
  exact ⟨rfl, fillTo_full, fillTo_full⟩
theorem iup_zero {a : Int} {ws : List Int} : IUp a ws 0 (mapTo (qM a ws) ws.length) := ⟨0, Nat.zero_le _, rfl, mapTo_congr fun i _ => by simp [upM, bonus]⟩
theorem iup_more {a : Int} {ws : List Int} {j : Int} {sh : List Int} (hG : GoodM a ws) (h : IUp a ws j sh) (hj : j < leftM a ws) :
    0 ≤ j ∧ j < ws.length ∧ ∃ t : Nat, t < ws.length ∧ (sortD (kM a ws) (idxs ws.length)).getD j.toNat 0 = t ∧ sh.length = ws.length ∧ IUp a ws (IntKind.i64.wrap (j + 1)) (sh.set t (IntKind.i64.wrap (sh.getD t 0 + 1))) ∧ (leftM a ws).toNat - (IntKind.i64.wrap (j + 1)).toNat < (leftM a ws).toNat - j.toNat := by
  obtain ⟨k, hk, rfl, rfl⟩ := h
  obtain ⟨l1, l2⟩ := hG.left_in
  have hl := hG.len
  obtain ⟨t, ht, h1, h2, h3⟩ := bonus_next (key := kM a ws) (n := ws.length) (k := k) (by omega)
  obtain ⟨q1, q2, _⟩ := hG.q ht
  refine ⟨by omega, by omega, t, ht, by rw [Int.toNat_natCast]; exact h1, mapTo_length, ?_, by rw [wrap64 (by omega) (by omega)]; omega⟩
  rw [mapTo_get ht, wrap64 (n := (k : Int) + 1) (by omega) (by omega), show upM a ws k t = qM a ws t by unfold upM; omega, wrap64 (by omega) (by omega)]
  refine ⟨k + 1, by omega, rfl, mapTo_set ht ?_ ?_⟩
  · unfold upM; rw [h3 t ht, if_pos rfl]; omega
  · intro i hi hne; unfold upM; rw [h3 i hi, if_neg hne]; omega
theorem iup_end {a : Int} {ws : List Int} {j : Int} {sh : List Int} (hG : GoodM a ws) (h : IUp a ws j sh) (hj : leftM a ws ≤ j) : sh = mapTo (shareM a ws) ws.length := by
  obtain ⟨k, hk, rfl, rfl⟩ := h
  obtain ⟨l1, l2⟩ := hG.left_in
  obtain rfl : k = (leftM a ws).toNat := by omega
  rfl
theorem idx_idxs (n : Nat) : IdxM n (idxs n) := fun i hi => idxs_mem.1 hi


end Go.Proofs.Ythbmllekbbfobaa.Sx
