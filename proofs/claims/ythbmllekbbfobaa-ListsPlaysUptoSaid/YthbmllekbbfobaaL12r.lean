import Derived.Test.YthbmllekbbfobaaProg
import Derived.Test.YthbmllekbbfobaaSxU
import Derived.IntWalk
import Derived.Test.YthbmllekbbfobaaL11
/-! lists, For -/
namespace Go.Proofs.Ythbmllekbbfobaa.Sx
open Go
set_option linter.unusedVariables false
set_option linter.unusedSimpArgs false
set_option maxRecDepth 100000

abbrev forI (card owner id act : Int) (l : List Item) : List Item := forS (fun x => aboutI x card owner id) act l
def forRow (card owner id act : Int) (l : List Item) : List Item := forI card owner id act l ++ List.replicate ((stS Item.number (l.filter (candI (fun x => aboutI x card owner id) act))).length - (forI card owner id act l).length) zIt
def IFo (card owner id act : Int) (l : List Item) (i : Int) (todo : List Item) : Prop := ∃ j : Nat, j ≤ l.length ∧ i = j ∧ todo = (l.take j).filter (candI (fun x => aboutI x card owner id) act)
def IRf (card owner id act : Int) (l out : List Item) (at_ : Int) : Prop := ∃ k : Nat, k ≤ (forI card owner id act l).length ∧ out = (forI card owner id act l).take k ∧ act ≤ at_ ∧ (k = 0 → at_ = act) ∧ (0 < k → at_ = ((forI card owner id act l).getD (k - 1) zIt).number)
def IRg (card owner id at_ : Int) (l : List Item) (best i : Int) : Prop := ∃ j : Nat, j ≤ l.length ∧ i = j ∧ ((best = -1 ∧ ∀ c, c < j → candI (fun x => aboutI x card owner id) at_ (l.getD c zIt) = false) ∨
  ∃ b : Nat, best = b ∧ b < j ∧ candI (fun x => aboutI x card owner id) at_ (l.getD b zIt) = true ∧ (∀ c, c < j → candI (fun x => aboutI x card owner id) at_ (l.getD c zIt) = true → (l.getD b zIt).number ≤ (l.getD c zIt).number) ∧ ∀ c, c < b → candI (fun x => aboutI x card owner id) at_ (l.getD c zIt) = true → (l.getD b zIt).number < (l.getD c zIt).number)
def ISm (l want : List Item) (n : Int) (k : Nat) : Prop := n = k ∧ k ≤ want.length ∧ k ≤ l.length ∧ l.take k = want.take k
theorem fo_yes {c : Item → Bool} {l : List Item} {j : Nat} (hj : j < l.length) (hc : c (l.getD j zIt) = true) : (l.take j).filter c ++ [l.getD j zIt] = (l.take (j + 1)).filter c := by
  rw [take_snoc hj, List.filter_append, List.filter_cons_of_pos hc, List.filter_nil]
theorem fo_no {c : Item → Bool} {l : List Item} {j : Nat} (hj : j < l.length) (hc : c (l.getD j zIt) = false) : (l.take j).filter c = (l.take (j + 1)).filter c := by
  rw [take_snoc hj, List.filter_append, List.filter_cons_of_neg (by rw [hc]; decide), List.filter_nil, List.append_nil]
theorem rg_no {card owner id at_ : Int} {l : List Item} {best : Int} {j : Nat} (h : IRg card owner id at_ l best j) (hj : j < l.length) (hc : candI (fun x => aboutI x card owner id) at_ (l.getD j zIt) = false) : IRg card owner id at_ l best ((j + 1 : Nat) : Int) := by
  obtain ⟨j', h1, e, h⟩ := h
  obtain rfl : j' = j := by omega
  refine ⟨j' + 1, by omega, rfl, ?_⟩
  have sp : ∀ c, c < j' + 1 → c < j' ∨ c = j' := fun c hc => by omega
  rcases h with ⟨h2, h3⟩ | ⟨b, h2, h3, h4, h5, h6⟩
  · refine .inl ⟨h2, fun c hc' => ?_⟩
    rcases sp c hc' with h | rfl
    · exact h3 c h
    · exact hc
  · refine .inr ⟨b, h2, by omega, h4, fun c hc' hk => ?_, h6⟩
    rcases sp c hc' with h | rfl
    · exact h5 c h hk
    · rw [hc] at hk; cases hk
theorem rg_new {card owner id at_ : Int} {l : List Item} {best : Int} {j : Nat} (h : IRg card owner id at_ l best j) (hj : j < l.length) (hc : candI (fun x => aboutI x card owner id) at_ (l.getD j zIt) = true) (hb : 0 ≤ best → (l.getD j zIt).number < (l.getD best.toNat zIt).number) : IRg card owner id at_ l (j : Int) ((j + 1 : Nat) : Int) := by
  obtain ⟨j', h1, e, h⟩ := h
  obtain rfl : j' = j := by omega
  refine ⟨j' + 1, by omega, rfl, .inr ⟨j', rfl, by omega, hc, fun c hc' hk => ?_, fun c hc' hk => ?_⟩⟩
  · rcases h with ⟨h2, h3⟩ | ⟨b, rfl, h3, h4, h5, h6⟩
    · rcases Nat.lt_or_ge c j' with h | h
      · rw [h3 c h] at hk; cases hk
      · obtain rfl : c = j' := by omega
        exact Int.le_refl _
    · have := hb (by omega)
      rw [Int.toNat_natCast] at this
      rcases Nat.lt_or_ge c j' with h | h
      · have := h5 c h hk; omega
      · obtain rfl : c = j' := by omega
        exact Int.le_refl _
  · rcases h with ⟨h2, h3⟩ | ⟨b, rfl, h3, h4, h5, h6⟩
    · rw [h3 c hc'] at hk; cases hk
    · have := hb (by omega)
      rw [Int.toNat_natCast] at this
      have := h5 c hc' hk
      omega
theorem rg_keep {card owner id at_ : Int} {l : List Item} {best : Int} {j : Nat} (h : IRg card owner id at_ l best j) (hj : j < l.length) (h0 : 0 ≤ best) (hb : ¬ (l.getD j zIt).number < (l.getD best.toNat zIt).number) : IRg card owner id at_ l best ((j + 1 : Nat) : Int) := by
  obtain ⟨j', h1, e, h⟩ := h
  obtain rfl : j' = j := by omega
  refine ⟨j' + 1, by omega, rfl, ?_⟩
  rcases h with ⟨h2, h3⟩ | ⟨b, rfl, h3, h4, h5, h6⟩
  · omega
  · rw [Int.toNat_natCast] at hb
    refine .inr ⟨b, rfl, by omega, h4, fun c hc' hk => ?_, h6⟩
    rcases Nat.lt_or_ge c j' with h | h
    · exact h5 c h hk
    · obtain rfl : c = j' := by omega
      omega
theorem rg_range {card owner id at_ : Int} {l : List Item} {best : Int} {j : Int} (h : IRg card owner id at_ l best j) (h0 : 0 ≤ best) : best < l.length := by
  obtain ⟨j', h1, e, h⟩ := h
  rcases h with ⟨h2, h3⟩ | ⟨b, rfl, h3, _⟩ <;> omega
theorem mem_getI {l : List Item} {y : Item} (h : y ∈ l) : ∃ c, c < l.length ∧ l.getD c zIt = y := by
  obtain ⟨i, hi, rfl⟩ := List.getElem_of_mem h
  exact ⟨i, hi, by rw [List.getD_eq_getElem?_getD, List.getElem?_eq_getElem hi]; rfl⟩
theorem rf_done {card owner id act at_ : Int} {l out : List Item} {best j : Int} (h : IRf card owner id act l out at_) (hg : IRg card owner id at_ l best j) (hj : (l.length : Int) ≤ j) (hb : best < 0) : out = forI card owner id act l := by
  obtain ⟨k, k1, rfl, k2, k3, k4⟩ := h
  obtain ⟨j', h1, rfl, h⟩ := hg
  rcases h with ⟨h2, h3⟩ | ⟨b, rfl, h3, _⟩
  · have := forS_none (at_ := at_) k1 k2 k3 k4 fun y hy => by
      obtain ⟨c, hc, rfl⟩ := mem_getI hy
      exact h3 c (by omega)
    rw [this, List.take_length]
  · omega
theorem rf_next {card owner id act at_ : Int} {l out : List Item} {best j : Int} (h : IRf card owner id act l out at_) (hg : IRg card owner id at_ l best j) (hj : (l.length : Int) ≤ j) (hb : 0 ≤ best) : out.length < (forI card owner id act l).length ∧ IRf card owner id act l (out ++ [l.getD best.toNat zIt]) (l.getD best.toNat zIt).number := by
  obtain ⟨k, k1, rfl, k2, k3, k4⟩ := h
  obtain ⟨j', h1, rfl, h⟩ := hg
  rcases h with ⟨h2, h3⟩ | ⟨b, rfl, h3, h4, h5, h6⟩
  · omega
  · rw [Int.toNat_natCast]
    obtain ⟨q1, q2⟩ := forS_best (at_ := at_) k1 k2 k3 k4 (show b < l.length by omega) h4 (fun y hy hk => by
      obtain ⟨c, hc, rfl⟩ := mem_getI hy
      exact h5 c (by omega) hk) h6
    have h4' := h4
    simp only [candI, Bool.and_eq_true, decide_eq_true_eq] at h4'
    refine ⟨by rw [List.length_take]; exact Nat.lt_of_le_of_lt (Nat.min_le_left _ _) q1, k + 1, q1, ?_, by omega, fun h => by omega, fun _ => ?_⟩
    · rw [q2, ← take_snoc q1]
    · rw [q2, Nat.add_sub_cancel]
theorem sm_next {l want : List Item} {k : Nat} (hk : k < l.length) (hw : k < want.length) (h : l.take k = want.take k) (he : l.getD k zIt = want.getD k zIt) : l.take (k + 1) = want.take (k + 1) := by
  rw [take_snoc hk, take_snoc hw, h, he]


end Go.Proofs.Ythbmllekbbfobaa.Sx
