import Derived.Test.YthbmllekbbfobaaProg
import Derived.Test.YthbmllekbbfobaaSxU
import Derived.IntWalk
import Derived.Test.YthbmllekbbfobaaL8
/-! ListsOff -/
namespace Go.Proofs.Ythbmllekbbfobaa.Sx
open Go
set_option linter.unusedVariables false
set_option linter.unusedSimpArgs false
set_option maxRecDepth 100000

theorem addI_nodup : ∀ (r l : List Item), l.Nodup → (addI l r).Nodup
  | [], l, h => h
  | x :: r, l, h => by
    rw [addI]
    refine addI_nodup r _ ?_
    by_cases hx : x ∈ l
    · rw [if_pos hx]; exact h
    · rw [if_neg hx, List.nodup_append]
      exact ⟨h, by simp, fun a ha b hb => by simp at hb; subst hb; rintro rfl; exact hx ha⟩
theorem addI_mem : ∀ (r l : List Item) (x : Item), x ∈ addI l r ↔ x ∈ l ∨ x ∈ r
  | [], l, x => by simp [addI]
  | y :: r, l, x => by
    rw [addI, addI_mem r]
    by_cases hy : y ∈ l
    · rw [if_pos hy]
      constructor
      · rintro (h | h)
        · exact .inl h
        · exact .inr (List.mem_cons_of_mem _ h)
      · rintro (h | h)
        · exact .inl h
        · rcases List.mem_cons.1 h with rfl | h
          · exact .inl hy
          · exact .inr h
    · rw [if_neg hy]; simp [or_assoc]
theorem offI_mem (off L : List Item) (x : Item) : x ∈ offI off L ↔ x ∈ L ∧ x ∉ off := by simp [offI]
theorem offI_nodup {off L : List Item} (h : L.Nodup) : (offI off L).Nodup := h.filter _
theorem next_mem (L add off : List Item) (x : Item) : x ∈ nextI L add off ↔ (x ∈ L ∧ x ∉ off) ∨ x ∈ add := by rw [nextI, addI_mem, offI_mem]
theorem next_nodup {L add off : List Item} (h : L.Nodup) : (nextI L add off).Nodup := addI_nodup _ _ (offI_nodup h)
theorem apply_ok {act : Bool} {v : Int} {L : List Item} {to : Int} {add off : List Item} (h : applyE act v L to add off = 0) :
    to = v + 1 ∧ (add ++ off).all (rightI act) = true ∧ (nextI L add off).length ≤ 64 ∧ applyV act v L to add off = v + 1 ∧ applyL act v L to add off = nextI L add off := by
  have h' := h
  unfold applyE at h'
  split at h'
  · cases h'
  · split at h'
    · cases h'
    · split at h'
      · cases h'
      · split at h'
        · cases h'
        · rename_i h1 h2 h3 h4
          exact ⟨by omega, by simpa using h3, by omega, by rw [applyV, if_pos h]; omega, by rw [applyL, if_pos h]⟩
theorem apply_no {act : Bool} {v : Int} {L : List Item} {to : Int} {add off : List Item} (h : applyE act v L to add off ≠ 0) : applyV act v L to add off = v ∧ applyL act v L to add off = L := by
  rw [applyV, applyL, if_neg h, if_neg h]; exact ⟨rfl, rfl⟩
theorem apply_fine {act : Bool} {v : Int} {L add off : List Item} (h1 : (add ++ off).all (rightI act) = true) (h2 : (nextI L add off).length ≤ 64) : applyE act v L (v + 1) add off = 0 := by
  unfold applyE
  rw [if_neg (by omega), if_neg (by omega), if_neg (by rw [h1]; simp), if_neg (by omega)]
theorem hot_hit (x : Item) : hitI x.card x.owner x.id x = true := by
  by_cases e : x.owner = 0 <;> simp [hitI, aboutI, e]
theorem off_one {A : List Item} {x : Item} (hn : A.Nodup) (hx : x ∈ A) : (offI [x] A).length + 1 = A.length := by
  induction A with
  | nil => simp at hx
  | cons y A ih =>
    rw [List.nodup_cons] at hn
    by_cases e : y = x
    · subst e
      have : offI [y] (y :: A) = A := by
        simp only [offI, List.filter_cons, List.mem_singleton]
        simp only [decide_true, Bool.not_true, Bool.false_eq_true, if_false]
        rw [List.filter_eq_self]
        intro z hz
        simp only [Bool.not_eq_true', decide_eq_false_iff_not]
        rintro rfl
        exact hn.1 hz
      rw [this, List.length_cons]
    · have hx' : x ∈ A := by rcases List.mem_cons.1 hx with h | h; exact absurd h.symm e; exact h
      have : offI [x] (y :: A) = y :: offI [x] A := by simp [offI, e]
      rw [this, List.length_cons, List.length_cons, ih hn.2 hx']
theorem off_self {B : List Item} {x : Item} (h : x ∉ B) : offI [x] B = B := by
  rw [offI, List.filter_eq_self]
  intro z hz
  simp only [List.mem_singleton, Bool.not_eq_true', decide_eq_false_iff_not]
  rintro rfl
  exact h hz
theorem idx_ok {a : Int} {n : Nat} (h0 : (n : Int) ≠ 0) (hn : n ≤ 1048576) : 0 ≤ (IntKind.i64.wrap (a.tmod n + n)).tmod n ∧ (IntKind.i64.wrap (a.tmod n + n)).tmod n < n := by
  have h1 := Int.tmod_lt_of_pos a (show (0 : Int) < n by omega)
  have h2 : -(n : Int) < a.tmod n := Int.lt_tmod_of_pos a (by omega)
  rw [wrap64 (by omega) (by omega)]
  exact ⟨Int.tmod_nonneg _ (by omega), Int.tmod_lt_of_pos _ (by omega)⟩
def IAg (ds : List Delta) (i n v : Int) (A : List Item) (v2 : Int) (B : List Item) : Prop := ∃ (q m : Nat) (L : List Item), q ≤ 30 ∧ m ≤ q ∧ L.length ≤ 64 ∧ i = q ∧ n = m ∧ v = m ∧ L = A ∧ v2 = m ∧ L = B
theorem apply_old {act : Bool} {v : Int} {L : List Item} {to : Int} {add off : List Item} (h : to ≤ v) : applyE act v L to add off = 31 ∧ applyV act v L to add off = v ∧ applyL act v L to add off = L := by
  have e : applyE act v L to add off = 31 := if_pos h
  exact ⟨e, apply_no (by rw [e]; decide)⟩
theorem apply_far {act : Bool} {v : Int} {L : List Item} {to : Int} {add off : List Item} (h : v + 1 < to) : applyE act v L to add off = 28 ∧ applyV act v L to add off = v ∧ applyL act v L to add off = L := by
  have e : applyE act v L to add off = 28 := by unfold applyE; rw [if_neg (by omega), if_pos (by omega)]
  exact ⟨e, apply_no (by rw [e]; decide)⟩
theorem idx_okI {a n : Int} (h0 : 0 < n) (hn : n ≤ 1048576) : 0 ≤ (IntKind.i64.wrap (a.tmod n + n)).tmod n ∧ (IntKind.i64.wrap (a.tmod n + n)).tmod n < n := by
  have h1 := Int.tmod_lt_of_pos a h0
  have h2 := Int.lt_tmod_of_pos a h0
  rw [wrap64 (by omega) (by omega)]
  exact ⟨Int.tmod_nonneg _ (by omega), Int.tmod_lt_of_pos _ (by omega)⟩
theorem idx3 {a q : Int} (h0 : 0 ≤ q) (hn : q ≤ 1048576) : 0 ≤ (IntKind.i64.wrap (IntKind.i64.wrap (a.tmod (q + 1) + q) + 1)).tmod (q + 1) ∧ (IntKind.i64.wrap (IntKind.i64.wrap (a.tmod (q + 1) + q) + 1)).tmod (q + 1) < q + 1 := by
  have h1 := Int.tmod_lt_of_pos a (show 0 < q + 1 by omega)
  have h2 := Int.lt_tmod_of_pos a (show 0 < q + 1 by omega)
  rw [wrap64 (n := _ + q) (by omega) (by omega), wrap64 (by omega) (by omega)]
  exact ⟨Int.tmod_nonneg _ (by omega), Int.tmod_lt_of_pos _ (by omega)⟩
def IAi (k v2 : Int) (B : List Item) (n : Int) (B0 : List Item) : Prop := ∃ p : Nat, p ≤ 5 ∧ k = p ∧ v2 = n ∧ B = B0
theorem wt_items (l : List Item) : (l.map fun y => wt_item y + 1).sum = l.length := by
  induction l with
  | nil => rfl
  | cons x l ih => rw [List.map_cons, List.sum_cons, ih, List.length_cons]; simp only [wt_item]; omega
theorem delta_sum {ds : List Delta} : ∀ {N : Nat}, (ds.map fun y => wt .delta y + 1).sum ≤ N → ds.length ≤ N ∧ ∀ d ∈ ds, d.add.length ≤ N ∧ d.off.length ≤ N := by
  induction ds with
  | nil => intro N _; exact ⟨by simp, fun d hd => by simp at hd⟩
  | cons x l ih =>
    intro N h
    simp only [List.map_cons, List.sum_cons] at h
    have hw : wt .delta x = x.add.length + x.off.length := by simp only [wt, wt_delta, wt_items]
    rw [hw] at h
    obtain ⟨h1, h2⟩ := ih (N := N - (x.add.length + x.off.length + 1)) (by omega)
    refine ⟨by simp only [List.length_cons]; omega, fun d hd => ?_⟩
    rcases List.mem_cons.1 hd with rfl | hd
    · omega
    · have := h2 d hd; omega
structure OffF (add : List Item) (A : List Item) : Prop where
  nd : A.Nodup
  hot : ∀ x ∈ A, hotI x = true
  len : A.length ≤ 64
theorem off1 {add : List Item} (h : applyE false 0 [] 1 add [] = 0) : applyV false 0 [] 1 add [] = 1 ∧ OffF add (applyL false 0 [] 1 add []) := by
  obtain ⟨_, h1, h2, h3, h4⟩ := apply_ok h
  rw [h4]
  refine ⟨h3, next_nodup List.nodup_nil, fun x hx => ?_, h2⟩
  rw [next_mem] at hx
  simp only [List.append_nil, List.all_eq_true] at h1
  exact h1 x (by simpa using hx)
theorem off2 {add A : List Item} {x : Item} (h : OffF add A) (hx : x ∈ A) : applyE false 1 A 2 [] [x] = 0 ∧ applyV false 1 A 2 [] [x] = 2 ∧ applyL false 1 A 2 [] [x] = offI [x] A := by
  have he : applyE false 1 A 2 [] [x] = 0 := apply_fine (v := 1) (by simp [rightI, h.hot x hx]) (Nat.le_trans (by rw [nextI, addI]; exact offI_len _ _) h.len)
  obtain ⟨_, _, _, h3, h4⟩ := apply_ok he
  exact ⟨he, h3, h4⟩
theorem off3 {add A : List Item} {x : Item} (h : OffF add A) (hx : x ∈ A) : applyE false 2 (offI [x] A) 3 [x] [x] = 0 ∧ applyV false 2 (offI [x] A) 3 [x] [x] = 3 ∧ applyL false 2 (offI [x] A) 3 [x] [x] = offI [x] A ++ [x] := by
  have hno : x ∉ offI [x] A := by rw [offI_mem]; simp
  have hne : nextI (offI [x] A) [x] [x] = offI [x] A ++ [x] := by rw [nextI, off_self hno, addI, addI, if_neg hno]
  have hl := off_one h.nd hx
  have he : applyE false 2 (offI [x] A) 3 [x] [x] = 0 := apply_fine (v := 2) (by simp [rightI, h.hot x hx]) (by rw [hne, List.length_append]; have := h.len; simp; omega)
  obtain ⟨_, _, _, h3, h4⟩ := apply_ok he
  exact ⟨he, h3, by rw [h4, hne]⟩


end Go.Proofs.Ythbmllekbbfobaa.Sx
