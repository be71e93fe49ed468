import Derived.Test.YthbmllekbbfobaaProg
import Derived.Test.YthbmllekbbfobaaSxU
import Derived.IntWalk
import Derived.Test.YthbmllekbbfobaaR1
/-! rules, the set -/
namespace Go.Proofs.Ythbmllekbbfobaa.Sx
open Go
set_option linter.unusedVariables false
set_option linter.unusedSimpArgs false
set_option maxRecDepth 100000

def SrtR (xs : List Rule) : Prop := xs.Pairwise fun a b => ordR a b < 0
def posR (xs : List Rule) (t : Rule) : Nat := (xs.filter fun x => decide (ordR x t < 0)).length
def hasR (xs : List Rule) (t : Rule) : Bool := xs.any fun x => decide (ordR x t = 0)
theorem ordR_tr {a b c : Rule} (h : ordR a b < 0) (h' : ordR b c ≤ 0) : ordR a c < 0 := by
  rcases Int.lt_or_eq_of_le h' with h' | h'
  · rw [ordR_neg] at *; omega
  · rw [ordR_zero] at h'; rw [ordR_neg] at *; omega
theorem pos_at {xs : List Rule} {t : Rule} {p : Nat} (hp : p ≤ xs.length) (h1 : ∀ c, c < p → ordR (xs.getD c ⟨0, 0, []⟩) t < 0) (h2 : ∀ c, p ≤ c → c < xs.length → ¬ ordR (xs.getD c ⟨0, 0, []⟩) t < 0) : posR xs t = p := by
  have e1 : (xs.take p).filter (fun x => decide (ordR x t < 0)) = xs.take p := List.filter_eq_self.2 fun x hx => by
    obtain ⟨i, hi, rfl⟩ := List.getElem_of_mem hx
    rw [List.length_take] at hi
    have := h1 i (by omega)
    rw [List.getElem_take]
    simpa [List.getD, show i < xs.length by omega] using this
  have e2 : (xs.drop p).filter (fun x => decide (ordR x t < 0)) = [] := List.filter_eq_nil_iff.2 fun x hx => by
    obtain ⟨i, hi, rfl⟩ := List.getElem_of_mem hx
    rw [List.length_drop] at hi
    have := h2 (p + i) (by omega) (by omega)
    rw [List.getElem_drop]
    simpa [List.getD, show p + i < xs.length by omega] using this
  unfold posR
  conv => lhs; rw [← List.take_append_drop p xs]
  rw [List.filter_append, e1, e2, List.append_nil, List.length_take]
  omega
theorem posR_le (xs : List Rule) (t : Rule) : posR xs t ≤ xs.length := List.length_filter_le _ _
theorem srt_at {xs : List Rule} (h : SrtR xs) {i j : Nat} (hij : i < j) (hj : j < xs.length) : ordR (xs.getD i ⟨0, 0, []⟩) (xs.getD j ⟨0, 0, []⟩) < 0 := by
  have := List.pairwise_iff_getElem.1 h i j (by omega) hj hij
  simpa [List.getD, show i < xs.length by omega, hj] using this
theorem has_at {xs : List Rule} {t : Rule} (h : SrtR xs) {p : Nat} (hp : p < xs.length) (h1 : ∀ c, c < p → ordR (xs.getD c ⟨0, 0, []⟩) t < 0) (h2 : ¬ ordR (xs.getD p ⟨0, 0, []⟩) t < 0) : hasR xs t = decide (ordR (xs.getD p ⟨0, 0, []⟩) t = 0) := by
  unfold hasR
  rw [Bool.eq_iff_iff, List.any_eq_true, decide_eq_true_iff]
  constructor
  · rintro ⟨x, hx, he⟩
    rw [decide_eq_true_iff] at he
    obtain ⟨c, hc, rfl⟩ := List.getElem_of_mem hx
    have g : xs.getD c ⟨0, 0, []⟩ = xs[c] := by simp [List.getD, hc]
    rw [← g] at he
    rcases Nat.lt_trichotomy c p with e | e | e
    · have := h1 c e; omega
    · subst e; exact he
    · exact absurd (ordR_tr (srt_at h e hc) (by omega)) h2
  · intro he
    exact ⟨_, mem_getD hp, by rw [decide_eq_true_iff]; exact he⟩
theorem has_no {xs : List Rule} {t : Rule} {p : Nat} (hp : xs.length ≤ p) (h1 : ∀ c, c < p → c < xs.length → ordR (xs.getD c ⟨0, 0, []⟩) t < 0) : hasR xs t = false := by
  unfold hasR
  rw [List.any_eq_false]
  intro x hx
  obtain ⟨c, hc, rfl⟩ := List.getElem_of_mem hx
  have := h1 c (by omega) hc
  have g : xs.getD c ⟨0, 0, []⟩ = xs[c] := by simp [List.getD, hc]
  rw [g] at this
  rw [decide_eq_true_iff]
  omega
/-- Where a rule of that owner and operator is, it is at its place. -/
theorem has_pos {xs : List Rule} {t : Rule} (h : SrtR xs) (ht : hasR xs t = true) : posR xs t < xs.length ∧ ordR (xs.getD (posR xs t) ⟨0, 0, []⟩) t = 0 := by
  unfold hasR at ht
  rw [List.any_eq_true] at ht
  obtain ⟨x, hx, he⟩ := ht
  rw [decide_eq_true_iff] at he
  obtain ⟨c, hc, rfl⟩ := List.getElem_of_mem hx
  have g : xs.getD c ⟨0, 0, []⟩ = xs[c] := by simp [List.getD, hc]
  rw [← g] at he
  have : posR xs t = c := pos_at (by omega) (fun i hi => ordR_tr (srt_at h hi hc) (by omega)) fun i hi hl hn => by
    rcases Nat.eq_or_lt_of_le hi with e | e
    · subst e; omega
    · have h1 := srt_at h e hl
      rw [ordR_zero] at he
      rw [ordR_neg] at h1 hn
      omega
  rw [this]
  exact ⟨hc, he⟩
theorem half_ok {x : Int} (h : 0 ≤ x) (h' : x ≤ 4294967296) : IntKind.i64.wrap ((IntKind.u64.wrap x).fdiv 2) = x / 2 := by
  rw [show IntKind.u64.wrap x = x by simp only [IntKind.wrap, IntKind.signed, IntKind.bits]; simp; omega, Int.fdiv_eq_ediv_of_nonneg x (by decide), wrap64 (by omega) (by omega)]
theorem half2 {p q : Nat} (h : p + q ≤ 4294967296) : IntKind.i64.wrap ((IntKind.u64.wrap (IntKind.i64.wrap ((p : Int) + q))).fdiv (2 ^ min 1 IntKind.u64.bits)) = (((p + q) / 2 : Nat) : Int) := by
  rw [wrap64 (n := (p : Int) + q) (by omega) (by omega), show (2 : Int) ^ min 1 IntKind.u64.bits = 2 from rfl, half_ok (by omega) (by omega)]; omega
theorem sL_le {a : Int} {ws : List Int} : (splitL a ws).length ≤ ws.length := by
  unfold splitL
  split
  · rw [mapTo_length]; omega
  · simp
def IBs (xs : List Rule) (t : Rule) (i j : Int) : Prop := ∃ p q : Nat, i = p ∧ j = q ∧ p ≤ q ∧ q ≤ xs.length ∧ (∀ c, c < p → ordR (xs.getD c ⟨0, 0, []⟩) t < 0) ∧ ∀ c, q ≤ c → c < xs.length → ¬ ordR (xs.getD c ⟨0, 0, []⟩) t < 0
/-- What is kept of the rules. -/
structure OkSet (ops : Int) (xs : List Rule) : Prop where
  srt : SrtR xs
  ok : ∀ r ∈ xs, rightR r ops = true
  ops : 1 ≤ ops ∧ ops ≤ 4
theorem rightR_iff {r : Rule} {ops : Int} : rightR r ops = true ↔ (1 ≤ r.owner ∧ r.owner ≤ ops ∧ 1 ≤ r.op ∧ r.op ≤ ops ∧ 1 ≤ (r.weights.length : Int) ∧ (r.weights.length : Int) ≤ ops) ∧ rightM 0 r.weights = true := by
  unfold rightR
  rw [Bool.and_eq_true, decide_eq_true_iff]
theorem rightM_rng {a : Int} {ws : List Int} (h : rightM a ws = true) : ∀ n ∈ ws, 0 ≤ n ∧ n ≤ 1000 := by
  intro n hn
  unfold rightM at h
  simp only [Bool.and_eq_true, List.all_eq_true, decide_eq_true_eq] at h
  exact h.1.2 n hn
theorem rightM_64 {a : Int} {ws : List Int} (h : rightM a ws = true) : ∀ n ∈ ws, -9223372036854775808 ≤ n ∧ n ≤ 9223372036854775807 := fun n hn => by have := rightM_rng h n hn; omega
theorem rightM_any {a b : Int} {ws : List Int} (h : rightM a ws = true) (h0 : 0 ≤ b) (h1 : b ≤ 2147483648) : rightM b ws = true := by
  unfold rightM at *
  simp only [Bool.and_eq_true, decide_eq_true_eq] at *
  exact ⟨⟨⟨⟨h0, h1⟩, h.1.1.2⟩, h.1.2⟩, h.2⟩
def wgtR (xs : List Rule) (owner op : Int) : List Int := if hasR xs ⟨owner, op, []⟩ then (xs.getD (posR xs ⟨owner, op, []⟩) ⟨0, 0, []⟩).weights else []
theorem wgt_right {ops : Int} {xs : List Rule} (h : OkSet ops xs) {owner op : Int} (ht : hasR xs ⟨owner, op, []⟩ = true) : rightM 0 (wgtR xs owner op) = true ∧ (wgtR xs owner op).length ≤ 4 := by
  obtain ⟨h1, h2⟩ := has_pos h.srt ht
  have := rightR_iff.1 (h.ok _ (mem_getD (d := (⟨0, 0, []⟩ : Rule)) h1))
  have ho := h.ops
  rw [wgtR, if_pos ht]
  exact ⟨this.2, by omega⟩
def partsL : Nat → List Int → List Share
  | _, [] => []
  | i, n :: l => if n ≠ 0 then ⟨(i : Int) + 1, n⟩ :: partsL (i + 1) l else partsL (i + 1) l
theorem partsL_snoc : ∀ {l : List Int} {i : Nat} {n : Int}, partsL i (l ++ [n]) = partsL i l ++ if n ≠ 0 then [⟨((i + l.length : Nat) : Int) + 1, n⟩] else []
  | [], i, n => by simp only [List.nil_append, partsL, List.length_nil, Nat.add_zero]
  | x :: l, i, n => by
    have ih := partsL_snoc (l := l) (i := i + 1) (n := n)
    simp only [List.cons_append, partsL, ih, List.length_cons]
    rw [show i + 1 + l.length = i + (l.length + 1) by omega]
    by_cases hx : x = 0
    · simp [hx]
    · simp [hx]
theorem partsL_len : ∀ {l : List Int} {i : Nat}, (partsL i l).length ≤ l.length
  | [], i => by simp [partsL]
  | x :: l, i => by
    have ih := partsL_len (l := l) (i := i + 1)
    simp only [partsL]
    split
    · simp only [List.length_cons]; omega
    · simp only [List.length_cons]; omega
def shR (owner fare : Int) (ws : List Int) : List Share := ⟨owner, -fare⟩ :: partsL 0 (splitL fare ws)
def shE (ops : Int) (xs : List Rule) (j : Journey) : Int := if goodJ j = false ∨ ops < j.op ∨ ops < j.owner then 2 else if hasR xs ⟨j.owner, j.op, []⟩ then 0 else 32
def shL (ops : Int) (xs : List Rule) (j : Journey) : List Share := if shE ops xs j = 0 then shR j.owner j.fare (wgtR xs j.owner j.op) else []
theorem shE_bad {ops : Int} {xs : List Rule} {j : Journey} (h : goodJ j = false ∨ ops < j.op ∨ ops < j.owner) : shE ops xs j = 2 ∧ shL ops xs j = [] := by
  have e : shE ops xs j = 2 := by unfold shE; rw [if_pos h]
  exact ⟨e, by unfold shL; rw [e, if_neg (by decide)]⟩
theorem shE_no {ops : Int} {xs : List Rule} {j : Journey} (h : goodJ j = true) (h1 : j.op ≤ ops) (h2 : j.owner ≤ ops) (ht : hasR xs ⟨j.owner, j.op, []⟩ = false) : shE ops xs j = 32 ∧ shL ops xs j = [] := by
  have e : shE ops xs j = 32 := by
    unfold shE
    rw [if_neg (by rw [h]; rintro (h | h | h) <;> first | cases h | omega), if_neg (by rw [ht]; decide)]
  exact ⟨e, by unfold shL; rw [e, if_neg (by decide)]⟩
theorem shE_yes {ops : Int} {xs : List Rule} {j : Journey} (h : goodJ j = true) (h1 : j.op ≤ ops) (h2 : j.owner ≤ ops) (ht : hasR xs ⟨j.owner, j.op, []⟩ = true) : shE ops xs j = 0 ∧ shL ops xs j = shR j.owner j.fare (wgtR xs j.owner j.op) := by
  have e : shE ops xs j = 0 := by
    unfold shE
    rw [if_neg (by rw [h]; rintro (h | h | h) <;> first | cases h | omega), if_pos ht]
  exact ⟨e, by unfold shL; rw [e, if_pos rfl]⟩
def ISh (owner fare : Int) (ws : List Int) (i : Int) (out : List Share) : Prop := ∃ k : Nat, k ≤ (splitL fare ws).length ∧ i = k ∧ out = ⟨owner, -fare⟩ :: partsL 0 ((splitL fare ws).take k)
theorem goodJ_fare {j : Journey} (h : goodJ j = true) : 0 ≤ j.fare ∧ j.fare ≤ 2147483648 := by
  simp only [goodJ, inR, Bool.and_eq_true, List.all_eq_true, decide_eq_true_eq] at h
  exact h.1.2 j.fare (by simp)


end Go.Proofs.Ythbmllekbbfobaa.Sx
