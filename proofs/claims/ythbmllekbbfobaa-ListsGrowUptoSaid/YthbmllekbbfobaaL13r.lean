import Derived.Test.YthbmllekbbfobaaProg
import Derived.Test.YthbmllekbbfobaaSxU
import Derived.IntWalk
import Derived.Test.YthbmllekbbfobaaL12
/-! lists, laws -/
namespace Go.Proofs.Ythbmllekbbfobaa.Sx
open Go
set_option linter.unusedVariables false
set_option linter.unusedSimpArgs false
set_option maxRecDepth 100000

theorem apply_cases (act : Bool) (v : Int) (L : List Item) (to : Int) (add off : List Item) : (applyE act v L to add off = 0 ∧ to = v + 1 ∧ (∀ x ∈ add ++ off, rightI act x = true) ∧ (nextI L add off).length ≤ 64 ∧ applyV act v L to add off = to ∧ applyL act v L to add off = nextI L add off) ∨ (applyE act v L to add off ≠ 0 ∧ applyV act v L to add off = v ∧ applyL act v L to add off = L) := by
  by_cases h : applyE act v L to add off = 0
  · obtain ⟨a, b, c, d, e⟩ := apply_ok h
    exact .inl ⟨h, a, List.all_eq_true.1 b, c, d.trans a.symm, e⟩
  · exact .inr ⟨h, (apply_no h).1, (apply_no h).2⟩
theorem apply_mem {act : Bool} {v : Int} {L : List Item} {to : Int} {add off : List Item} (hL : ∀ x ∈ L, rightI act x = true) : ∀ x ∈ applyL act v L to add off, rightI act x = true := by
  intro x hx
  rcases apply_cases act v L to add off with ⟨_, _, h, _, _, e⟩ | ⟨_, _, e⟩
  · rw [e, next_mem] at hx
    rcases hx with hx | hx
    · exact hL x hx.1
    · exact h x (by simp [hx])
  · rw [e] at hx; exact hL x hx
theorem apply_len {act : Bool} {v : Int} {L : List Item} {to : Int} {add off : List Item} (hL : L.length ≤ 64) : (applyL act v L to add off).length ≤ 64 := by
  rcases apply_cases act v L to add off with ⟨_, _, h, h', _, e⟩ | ⟨_, _, e⟩
  · rw [e]; exact h'
  · rw [e]; exact hL
theorem apply_ver {act : Bool} {v : Int} {L : List Item} {to : Int} {add off : List Item} : v ≤ applyV act v L to add off ∧ applyV act v L to add off ≤ v + 1 := by
  rcases apply_cases act v L to add off with ⟨_, h, _, _, e, _⟩ | ⟨_, e, _⟩ <;> rw [e] <;> omega
theorem apply_any {act : Bool} {v : Int} {L : List Item} {to : Int} {add : List Item} {p : Item → Bool} (h : L.any p = true) : (applyL act v L to add []).any p = true := by
  rcases apply_cases act v L to add [] with ⟨_, _, _, _, _, e⟩ | ⟨_, _, e⟩
  · rw [e, List.any_eq_true]
    obtain ⟨x, hx, hp⟩ := List.any_eq_true.1 h
    exact ⟨x, (next_mem _ _ _ _).2 (.inl ⟨hx, by simp⟩), hp⟩
  · rw [e]; exact h
theorem act_num {x : Item} (h : rightI true x = true) : x.number ≤ 65535 ∧ 0 ≤ x.owner := by
  simp only [rightI, if_true, actI, namedI, Bool.and_eq_true, decide_eq_true_eq] at h
  omega
theorem hot_own {x : Item} (h : rightI false x = true) : 0 ≤ x.owner := by
  simp only [rightI, hotI, namedI, Bool.and_eq_true, decide_eq_true_eq] at h
  simp at h
  omega
theorem forRow_take (card owner id act : Int) (l : List Item) : ((forRow card owner id act l).drop 0).take (forI card owner id act l).length = forI card owner id act l := by
  rw [List.drop_zero, forRow, List.take_left]
theorem for_at {card owner id act : Int} {l : List Item} {k : Nat} (hk : k < (forI card owner id act l).length) : act < ((forI card owner id act l).getD k zIt).number ∧ ((forI card owner id act l).getD k zIt).owner = owner ∧ ((forI card owner id act l).getD k zIt).id = id ∧ (0 < k → ((forI card owner id act l).getD (k - 1) zIt).number < ((forI card owner id act l).getD k zIt).number) ∧ ∃ y ∈ l, y.number = ((forI card owner id act l).getD k zIt).number := by
  obtain ⟨h1, h2, _⟩ := forS_spec (fun x => aboutI x card owner id) act l
  have gt : ∀ (i : Nat) (hi : i < (forI card owner id act l).length), (forI card owner id act l).getD i zIt = (forI card owner id act l)[i] := fun i hi => by rw [List.getD_eq_getElem?_getD, List.getElem?_eq_getElem hi]; rfl
  rw [gt k hk]
  obtain ⟨a, b, c⟩ := h2 _ (List.getElem_mem hk)
  have hm := List.mem_of_mem_head? (Option.mem_def.2 c)
  have hm := (List.mem_filter.1 (List.mem_filter.1 hm).1).1
  simp only [aboutI, decide_eq_true_eq] at a
  refine ⟨b, a.2.1, a.2.2.1, fun h0 => ?_, _, hm, rfl⟩
  rw [gt (k - 1) (by omega)]
  exact List.pairwise_iff_getElem.1 h1 (k - 1) k (show k - 1 < (forI card owner id act l).length by omega) hk (by omega)
theorem for_none {card owner id act : Int} {l : List Item} (hl : ∀ x ∈ l, rightI true x = true) (h : 65535 ≤ act) : (forI card owner id act l).length = 0 := by
  rcases Nat.eq_zero_or_pos (forI card owner id act l).length with h0 | h0
  · exact h0
  · obtain ⟨a, _, _, _, y, hy, e⟩ := for_at h0
    have := (act_num (hl y hy)).1
    omega
def IGr (ds : List Delta) (i v : Int) (A : List Item) (w : Int) (B : List Item) : Prop := ∃ (n x y : Nat) (L M : List Item), n ≤ ds.length ∧ n ≤ 30 ∧ x ≤ n ∧ y ≤ n ∧ L.length ≤ 64 ∧ M.length ≤ 64 ∧ (∀ z ∈ M, rightI true z = true) ∧ i = n ∧ v = x ∧ w = y ∧ L = A ∧ M = B
def IGe (F : List Item) (act last n : Int) (k : Nat) : Prop := ∃ j : Nat, j = k ∧ n = j ∧ j ≤ F.length ∧ (j = 0 → last = act) ∧ (0 < j → last = (F.getD (j - 1) zIt).number)
def IGm (F : List Item) (m : Int) (k : Nat) : Prop := ∃ j : Nat, j = k ∧ m = j ∧ j ≤ F.length


def IPly (ds : List Delta) (i v : Int) (A : List Item) (w : Int) (B : List Item) (v3 : Int) (C : List Item) (w3 : Int) (D : List Item) : Prop := ∃ (n x y : Nat) (L M : List Item), n ≤ ds.length ∧ n ≤ 60 ∧ x ≤ n ∧ y ≤ n ∧ L.length ≤ 64 ∧ M.length ≤ 64 ∧ (∀ z ∈ L, rightI false z = true) ∧ (∀ z ∈ M, rightI true z = true) ∧ i = n ∧ v = x ∧ w = y ∧ v3 = x ∧ w3 = y ∧ L = A ∧ M = B ∧ L = C ∧ M = D
def ILn (n : Nat) (xs : List Item) (k : Int) : Prop := xs.length = n ∧ ∃ j : Nat, j ≤ n ∧ k = j
def IAk (n : Nat) (k : Int) : Prop := ∃ j : Nat, j ≤ n ∧ j ≤ 6 ∧ k = j


end Go.Proofs.Ythbmllekbbfobaa.Sx
