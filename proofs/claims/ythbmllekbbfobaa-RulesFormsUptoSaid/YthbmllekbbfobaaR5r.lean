import Derived.Test.YthbmllekbbfobaaProg
import Derived.Test.YthbmllekbbfobaaSxU
import Derived.IntWalk
import Derived.Test.YthbmllekbbfobaaR4
/-! rules, shares -/
namespace Go.Proofs.Ythbmllekbbfobaa.Sx
open Go
set_option linter.unusedVariables false
set_option linter.unusedSimpArgs false
set_option maxRecDepth 100000

theorem wt_ints (l : List Int) : (l.map fun _ => 0 + 1).sum = l.length := by
  induction l with
  | nil => rfl
  | cons x l ih => rw [List.map_cons, List.sum_cons, ih, List.length_cons]; omega
theorem partsL_mem : ∀ {l : List Int} {i : Nat} {x : Share}, x ∈ partsL i l → (i : Int) + 1 ≤ x.op ∧ x.op ≤ i + l.length ∧ x.amount ∈ l ∧ x.amount ≠ 0
  | [], i, x, h => by simp [partsL] at h
  | n :: l, i, x, h => by
    have step : x ∈ partsL (i + 1) l → (i : Int) + 1 ≤ x.op ∧ x.op ≤ i + (n :: l).length ∧ x.amount ∈ n :: l ∧ x.amount ≠ 0 := fun h => by
      obtain ⟨a, b, c, d⟩ := partsL_mem (l := l) (i := i + 1) h
      simp only [List.length_cons]
      exact ⟨by omega, by omega, by simp [c], d⟩
    simp only [partsL] at h
    split at h
    · rename_i hn
      rcases List.mem_cons.1 h with rfl | h
      · simp only [List.length_cons]
        exact ⟨by omega, by omega, by simp, hn⟩
      · exact step h
    · exact step h
theorem partsL_sum : ∀ {l : List Int} {i : Nat}, ((partsL i l).map (·.amount)).sum = l.sum
  | [], i => by simp [partsL]
  | n :: l, i => by
    have ih := partsL_sum (l := l) (i := i + 1)
    simp only [partsL]
    split
    · simp only [List.map_cons, List.sum_cons, ih]
    · rename_i hn
      rw [ih, List.sum_cons]
      have : n = 0 := by simpa using hn
      omega
theorem take_sum : ∀ {l : List Int} {j : Nat}, (∀ x ∈ l, 0 ≤ x) → 0 ≤ (l.take j).sum ∧ (l.take j).sum ≤ l.sum
  | [], j, _ => by simp
  | x :: l, 0, h => by
    have := take_sum (l := l) (j := l.length) fun y hy => h y (by simp [hy])
    rw [List.take_length] at this
    have := h x (by simp)
    simp only [List.take_zero, List.sum_nil, List.sum_cons]
    omega
  | x :: l, j + 1, h => by
    have := take_sum (l := l) (j := j) fun y hy => h y (by simp [hy])
    have := h x (by simp)
    simp only [List.take_succ_cons, List.sum_cons]
    omega
theorem splitL_sum {a : Int} {ws : List Int} (h : rightM a ws = true) : (splitL a ws).sum = a := by
  rw [splitL, if_pos h]
  exact (goodM h).sum
theorem splitL_nn {a : Int} {ws : List Int} (h : rightM a ws = true) : ∀ x ∈ splitL a ws, 0 ≤ x := by
  intro x hx
  rw [splitL, if_pos h] at hx
  obtain ⟨i, hi, rfl⟩ := List.mem_map.1 hx
  have h1 := (goodM h).share (List.mem_range.1 hi)
  have h2 := (goodM h).q (List.mem_range.1 hi)
  omega
/-- What the shares of a journey are. -/
theorem shR_spec {o f n : Int} {ws : List Int} (h : rightM 0 ws = true) (hf : 0 ≤ f ∧ f ≤ 2147483648) (ho : 1 ≤ o ∧ o ≤ n) (hn : (ws.length : Int) ≤ n) :
    ((shR o f ws).map (·.amount)).sum = 0 ∧ (∀ j, -2147483648 ≤ (((shR o f ws).take j).map (·.amount)).sum ∧ (((shR o f ws).take j).map (·.amount)).sum ≤ 0) ∧ (∀ x ∈ shR o f ws, 1 ≤ x.op ∧ x.op ≤ n) ∧ ∀ j, 0 < j → j < (shR o f ws).length → 0 < ((shR o f ws).getD j ⟨0, 0⟩).amount := by
  have hr := rightM_any h hf.1 hf.2
  have hs := splitL_sum hr
  have hnn := splitL_nn hr
  have hl := sL_le (a := f) (ws := ws)
  have hpn : ∀ x ∈ (partsL 0 (splitL f ws)).map (·.amount), 0 ≤ x := fun x hx => by
    obtain ⟨y, hy, rfl⟩ := List.mem_map.1 hx
    exact hnn _ (partsL_mem hy).2.2.1
  have hps : ((partsL 0 (splitL f ws)).map (·.amount)).sum = f := by rw [partsL_sum, hs]
  refine ⟨?_, fun j => ?_, fun x hx => ?_, fun j h0 hj => ?_⟩
  · simp only [shR, List.map_cons, List.sum_cons, hps]; omega
  · cases j with
    | zero => simp
    | succ j =>
      have := take_sum (l := (partsL 0 (splitL f ws)).map (·.amount)) (j := j) hpn
      rw [← List.map_take, hps] at this
      simp only [shR, List.take_succ_cons, List.map_cons, List.sum_cons]
      omega
  · rw [shR] at hx
    rcases List.mem_cons.1 hx with rfl | hx
    · exact ho
    · obtain ⟨a, b, _⟩ := partsL_mem hx
      omega
  · cases j with
    | zero => omega
    | succ j =>
      simp only [shR, List.length_cons] at hj
      simp only [shR, List.getD_cons_succ]
      have hm := mem_getD (d := (⟨0, 0⟩ : Share)) (show j < (partsL 0 (splitL f ws)).length by omega)
      obtain ⟨_, _, c, d⟩ := partsL_mem hm
      have := hnn _ c
      omega
theorem puts_one {n : Int} {r : Rule} (h : rightR r n = true) : putRs n [] [r] = [r] := by
  rw [putRs, List.all_cons, h]
  rfl
theorem puts_none {n : Int} {r : Rule} (h : rightR r n = false) : putRs n [] [r] = [] := by
  rw [putRs, List.all_cons, h]
  rfl
theorem has_one (r : Rule) : hasR [r] ⟨r.owner, r.op, []⟩ = true ∧ wgtR [r] r.owner r.op = r.weights := by
  have e : ordR r ⟨r.owner, r.op, []⟩ = 0 := ordR_zero.2 ⟨rfl, rfl⟩
  have h1 : hasR [r] ⟨r.owner, r.op, []⟩ = true := by simp [hasR, e]
  refine ⟨h1, ?_⟩
  have h2 : posR [r] ⟨r.owner, r.op, []⟩ = 0 := by simp [posR, e]
  rw [wgtR, if_pos h1, h2]
  rfl
theorem shE_none {n : Int} {j : Journey} : shE n [] j ≠ 0 := by
  unfold shE
  split
  · decide
  · rw [if_neg (by simp [hasR])]; decide
def nOf (ops : Int) : Int := IntKind.i64.wrap (1 + (IntKind.i64.wrap (ops.tmod 4 + 4)).tmod 4)
def jOf (r : Rule) (j : Journey) : Journey := ⟨r.op, j.seq, j.card, r.owner, j.id, j.kind, j.frm, j.to, j.fare, j.day⟩
def lOf (ops : Int) (r : Rule) (j : Journey) : List Share := shL (nOf ops) (putRs (nOf ops) [] [r]) (jOf r j)
theorem nOf_in (ops : Int) : 1 ≤ nOf ops ∧ nOf ops ≤ 4 := by
  have a : -4 < ops.tmod 4 := Int.lt_tmod_of_pos ops (by decide)
  have b : ops.tmod 4 < 4 := Int.tmod_lt_of_pos ops (by decide)
  unfold nOf
  rw [wrap64 (n := ops.tmod 4 + 4) (by omega) (by omega)]
  have c : 0 ≤ (ops.tmod 4 + 4).tmod 4 := Int.tmod_nonneg _ (by omega)
  have d : (ops.tmod 4 + 4).tmod 4 < 4 := Int.tmod_lt_of_pos _ (by decide)
  rw [wrap64 (by omega) (by omega)]
  omega
theorem shE_zero {n : Int} {xs : List Rule} {j : Journey} (h : shE n xs j = 0) : goodJ j = true ∧ hasR xs ⟨j.owner, j.op, []⟩ = true := by
  unfold shE at h
  split at h
  · cases h
  · rename_i hc
    split at h
    · rename_i ht
      refine ⟨?_, ht⟩
      cases hg : goodJ j with
      | true => rfl
      | false => exact absurd (.inl hg) hc
    · cases h
theorem putRE_zero {n : Int} {r : Rule} (h : putRE n [r] = 0) : rightR r n = true := by
  unfold putRE at h
  cases hr : rightR r n with
  | true => rfl
  | false => simp [hr] at h
theorem putRE_non {n : Int} {r : Rule} (h : putRE n [r] ≠ 0) : rightR r n = false := by
  unfold putRE at h
  cases hr : rightR r n with
  | true => simp [hr] at h
  | false => rfl
theorem lOf_two {ops : Int} {r : Rule} {j : Journey} (h : putRE (nOf ops) [r] = 0) (h0 : shE (nOf ops) (putRs (nOf ops) [] [r]) (jOf r j) ≠ 0) : shE (nOf ops) (putRs (nOf ops) [] [r]) (jOf r j) = 2 ∧ lOf ops r j = [] := by
  refine ⟨?_, by unfold lOf shL; rw [if_neg h0]⟩
  have hr := putRE_zero h
  rw [puts_one hr] at h0 ⊢
  unfold shE at h0 ⊢
  split
  · rfl
  · rename_i hc
    rw [if_neg hc] at h0
    rw [if_pos (show hasR [r] ⟨(jOf r j).owner, (jOf r j).op, []⟩ = true from (has_one r).1)] at h0
    exact absurd rfl h0
theorem lOf_spec {ops : Int} {r : Rule} {j : Journey} (h : putRE (nOf ops) [r] = 0) (h0 : shE (nOf ops) (putRs (nOf ops) [] [r]) (jOf r j) = 0) :
    lOf ops r j = shR r.owner j.fare r.weights ∧ (0 ≤ j.fare ∧ j.fare ≤ 2147483648) ∧ ((lOf ops r j).map (·.amount)).sum = 0 ∧ (∀ k, -2147483648 ≤ (((lOf ops r j).take k).map (·.amount)).sum ∧ (((lOf ops r j).take k).map (·.amount)).sum ≤ 0) ∧
      (∀ x ∈ lOf ops r j, 1 ≤ x.op ∧ x.op ≤ nOf ops) ∧ ∀ k, 0 < k → k < (lOf ops r j).length → 0 < ((lOf ops r j).getD k ⟨0, 0⟩).amount := by
  have hr := putRE_zero h
  have e : lOf ops r j = shR r.owner j.fare r.weights := by
    unfold lOf shL
    rw [if_pos h0, puts_one hr]
    show shR r.owner j.fare (wgtR [r] r.owner r.op) = _
    rw [(has_one r).2]
  have hf := goodJ_fare (shE_zero h0).1
  have hr' := rightR_iff.1 hr
  rw [e]
  exact ⟨rfl, hf, shR_spec hr'.2 hf ⟨hr'.1.1, hr'.1.2.1⟩ hr'.1.2.2.2.2.2⟩
def ISs (l : List Share) (i sum : Int) : Prop := ∃ j : Nat, j ≤ l.length ∧ i = j ∧ sum = ((l.take j).map (·.amount)).sum


end Go.Proofs.Ythbmllekbbfobaa.Sx
