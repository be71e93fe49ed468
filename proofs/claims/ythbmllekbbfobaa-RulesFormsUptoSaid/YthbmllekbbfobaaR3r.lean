import Derived.Test.YthbmllekbbfobaaProg
import Derived.Test.YthbmllekbbfobaaSxU
import Derived.IntWalk
import Derived.Test.YthbmllekbbfobaaRI
/-! rules, Put -/
namespace Go.Proofs.Ythbmllekbbfobaa.Sx
open Go
set_option linter.unusedVariables false
set_option linter.unusedSimpArgs false
set_option maxRecDepth 100000

def putR (xs : List Rule) (r : Rule) : List Rule := if hasR xs r then xs.set (posR xs r) r else xs.take (posR xs r) ++ [r] ++ xs.drop (posR xs r)
def putRE (ops : Int) (rs : List Rule) : Int := if rs.all (fun r => rightR r ops) then 0 else 2
def putRs (ops : Int) (xs rs : List Rule) : List Rule := if rs.all (fun r => rightR r ops) then rs.foldl putR xs else xs
def IPt1 (ops : Int) (rs : List Rule) (i : Int) : Prop := ∃ j : Nat, j ≤ rs.length ∧ i = j ∧ ∀ r ∈ rs.take j, rightR r ops = true
def IPt2 (ops : Int) (l rs : List Rule) (i o : Int) (xs : List Rule) : Prop := ∃ j : Nat, j ≤ rs.length ∧ i = j ∧ o = ops ∧ (∀ r ∈ rs, rightR r ops = true) ∧ (rs.take j).foldl putR l = xs
theorem inc_len : ∀ {l : List Int} {lo hi : Int}, l.Pairwise (· < ·) → (∀ x ∈ l, lo ≤ x ∧ x < hi) → l ≠ [] → (l.length : Int) ≤ hi - lo
  | [], _, _, _, _, h => absurd rfl h
  | x :: l, lo, hi, hp, hr, _ => by
    have hx := hr x (by simp)
    by_cases hl : l = []
    · subst hl; simp; omega
    · have h2 := List.pairwise_cons.1 hp
      have ih := inc_len (l := l) (lo := x + 1) (hi := hi) h2.2 (fun y hy => by have := h2.1 y hy; have := hr y (by simp [hy]); omega) hl
      simp only [List.length_cons]
      omega
theorem okset_len {ops : Int} {xs : List Rule} (h : OkSet ops xs) : xs.length ≤ 16 := by
  by_cases hn : xs = []
  · subst hn; simp
  · have ho := h.ops
    have := inc_len (l := xs.map fun r => 4 * r.owner + r.op) (lo := 5) (hi := 21) (by
      rw [List.pairwise_map]
      refine List.Pairwise.imp_of_mem ?_ h.srt
      intro a b ha hb hab
      have h1 := (rightR_iff.1 (h.ok a ha)).1
      have h2 := (rightR_iff.1 (h.ok b hb)).1
      rw [ordR_neg] at hab
      omega) (fun x hx => by
        obtain ⟨r, hr, rfl⟩ := List.mem_map.1 hx
        have h1 := (rightR_iff.1 (h.ok r hr)).1
        omega) (by simpa using hn)
    rw [List.length_map] at this
    omega
theorem pos_ex (t : Rule) : ∀ {xs : List Rule}, SrtR xs → ∃ p : Nat, p ≤ xs.length ∧ (∀ c, c < p → ordR (xs.getD c ⟨0, 0, []⟩) t < 0) ∧ ∀ c, p ≤ c → c < xs.length → ¬ ordR (xs.getD c ⟨0, 0, []⟩) t < 0
  | [], _ => ⟨0, Nat.le_refl _, fun c hc => by omega, fun c _ hc => by simp at hc⟩
  | x :: l, h => by
    have h2 := List.pairwise_cons.1 h
    obtain ⟨p, h3, h4, h5⟩ := pos_ex t h2.2
    by_cases hx : ordR x t < 0
    · refine ⟨p + 1, by simp only [List.length_cons]; omega, fun c hc => ?_, fun c hc hl => ?_⟩
      · cases c with
        | zero => simpa using hx
        | succ c => simpa using h4 c (by omega)
      · cases c with
        | zero => omega
        | succ c => simp only [List.length_cons] at hl; simpa using h5 c (by omega) (by omega)
    · refine ⟨0, Nat.zero_le _, fun c hc => by omega, fun c _ hl => ?_⟩
      cases c with
      | zero => simpa using hx
      | succ c =>
        simp only [List.length_cons] at hl
        intro hn
        simp only [List.getD_cons_succ] at hn
        exact hx (ordR_tr (h2.1 _ (mem_getD (d := (⟨0, 0, []⟩ : Rule)) (show c < l.length by omega))) (by omega))
theorem pos_spec {xs : List Rule} {t : Rule} (h : SrtR xs) : (∀ c, c < posR xs t → ordR (xs.getD c ⟨0, 0, []⟩) t < 0) ∧ ∀ c, posR xs t ≤ c → c < xs.length → ¬ ordR (xs.getD c ⟨0, 0, []⟩) t < 0 := by
  obtain ⟨p, h1, h2, h3⟩ := pos_ex t h
  have := pos_at h1 h2 h3
  subst this
  exact ⟨h2, h3⟩
theorem ordR_gt {a b : Rule} (h : ¬ ordR a b < 0) (h' : ordR a b ≠ 0) : ordR b a < 0 := by
  rw [ordR_neg] at h ⊢
  have : ¬ (a.owner = b.owner ∧ a.op = b.op) := fun e => h' (ordR_zero.2 e)
  omega
theorem mem_at {xs : List Rule} {x : Rule} (h : x ∈ xs) : ∃ c, c < xs.length ∧ xs.getD c ⟨0, 0, []⟩ = x := by
  obtain ⟨c, hc, rfl⟩ := List.getElem_of_mem h
  exact ⟨c, hc, by simp [List.getD, hc]⟩
theorem put_ok {ops : Int} {xs : List Rule} {r : Rule} (h : OkSet ops xs) (hr : rightR r ops = true) : OkSet ops (putR xs r) := by
  obtain ⟨s1, s2⟩ := pos_spec (t := r) h.srt
  unfold putR
  cases hh : hasR xs r with
  | true =>
    obtain ⟨hp, he⟩ := has_pos h.srt hh
    rw [if_pos rfl]
    refine ⟨?_, fun y hy => ?_, h.ops⟩
    · refine List.pairwise_iff_getElem.2 fun i j hi hj hij => ?_
      rw [List.length_set] at hi hj
      have h0 := srt_at h.srt hij hj
      rw [ordR_zero] at he
      rw [List.getElem_set, List.getElem_set]
      simp only [List.getD, List.getElem?_eq_getElem hi, List.getElem?_eq_getElem hj, List.getElem?_eq_getElem hp, Option.getD_some] at h0 he
      rw [ordR_neg] at h0 ⊢
      split
      · rename_i e; subst e
        split
        · omega
        · omega
      · split
        · rename_i e; subst e; omega
        · exact h0
    · rcases List.mem_or_eq_of_mem_set hy with hy | rfl
      · exact h.ok y hy
      · exact hr
  | false =>
    rw [if_neg (by simp)]
    have hz : ∀ x ∈ xs, ordR x r ≠ 0 := fun x hx e => by
      have : hasR xs r = true := List.any_eq_true.2 ⟨x, hx, by rw [decide_eq_true_iff]; exact e⟩
      rw [this] at hh; cases hh
    have tk : ∀ x ∈ xs.take (posR xs r), ordR x r < 0 := fun x hx => by
      obtain ⟨c, hc, e⟩ := mem_at hx
      rw [List.length_take] at hc
      have := s1 c (by omega)
      rw [show xs.getD c ⟨0, 0, []⟩ = x by rw [← e]; simp [List.getD, List.getElem?_take, show c < posR xs r by omega]] at this
      exact this
    have dr : ∀ x ∈ xs.drop (posR xs r), ordR r x < 0 := fun x hx => by
      obtain ⟨c, hc, e⟩ := mem_at hx
      rw [List.length_drop] at hc
      have := s2 (posR xs r + c) (by omega) (by omega)
      rw [show xs.getD (posR xs r + c) ⟨0, 0, []⟩ = x by rw [← e]; simp [List.getD]] at this
      exact ordR_gt this (hz x (List.mem_of_mem_drop hx))
    refine ⟨?_, fun y hy => ?_, h.ops⟩
    · rw [List.append_assoc]
      refine List.pairwise_append.2 ⟨List.Pairwise.sublist (List.take_sublist _ _) h.srt, List.pairwise_append.2 ⟨List.pairwise_singleton _ _, List.Pairwise.sublist (List.drop_sublist _ _) h.srt, fun a ha b hb => by rw [List.mem_singleton.1 ha]; exact dr b hb⟩, fun a ha b hb => ?_⟩
      rcases List.mem_append.1 hb with hb | hb
      · rw [List.mem_singleton.1 hb]; exact tk a ha
      · exact ordR_tr (tk a ha) (Int.le_of_lt (dr b hb))
    · simp only [List.mem_append, List.mem_singleton] at hy
      rcases hy with (hy | rfl) | hy
      · exact h.ok y (List.mem_of_mem_take hy)
      · exact hr
      · exact h.ok y (List.mem_of_mem_drop hy)
theorem puts_ok {ops : Int} : ∀ {rs xs : List Rule}, OkSet ops xs → (∀ r ∈ rs, rightR r ops = true) → OkSet ops (rs.foldl putR xs)
  | [], xs, h, _ => h
  | r :: rs, xs, h, hr => puts_ok (rs := rs) (xs := putR xs r) (put_ok h (hr r (by simp))) fun q hq => hr q (by simp [hq])
theorem fold_snoc {xs rs : List Rule} {j : Nat} (hj : j < rs.length) : (rs.take (j + 1)).foldl putR xs = putR ((rs.take j).foldl putR xs) (rs.getD j ⟨0, 0, []⟩) := by
  rw [take_getD (d := (⟨0, 0, []⟩ : Rule)) hj, List.foldl_append]
  rfl


end Go.Proofs.Ythbmllekbbfobaa.Sx
