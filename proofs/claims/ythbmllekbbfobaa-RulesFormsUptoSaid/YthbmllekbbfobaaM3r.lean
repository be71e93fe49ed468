import Derived.Test.YthbmllekbbfobaaProg
import Derived.Test.YthbmllekbbfobaaSxU
import Derived.IntWalk
import Derived.Test.YthbmllekbbfobaaM2
/-! fareboxref05, Split -/
namespace Go.Proofs.Ythbmllekbbfobaa.Sx
open Go
set_option linter.unusedVariables false
set_option linter.unusedSimpArgs false
set_option maxRecDepth 100000

def IR1 (ws : List Int) (i w : Int) : Prop := ∃ m : Nat, m ≤ ws.length ∧ i = m ∧ (∀ x ∈ ws.take m, 0 ≤ x ∧ x ≤ 1000) ∧ w = (ws.take m).sum
theorem sum_nonneg {ws : List Int} (h : ∀ w ∈ ws, 0 ≤ w) : 0 ≤ ws.sum := by
  induction ws with
  | nil => simp
  | cons w ws ih =>
    have := ih fun x hx => h x (by simp [hx])
    have := h w (by simp)
    simp only [List.sum_cons]; omega
theorem ir1_more {ws : List Int} {i w : Int} (h : IR1 ws i w) (hl : ws.length ≤ 16) (hi : i < ws.length) : 0 ≤ i ∧ (0 ≤ ws.getD i.toNat 0 → ws.getD i.toNat 0 ≤ 1000 → IR1 ws (IntKind.i64.wrap (i + 1)) (IntKind.i64.wrap (w + ws.getD i.toNat 0)) ∧ ws.length - (IntKind.i64.wrap (i + 1)).toNat < ws.length - i.toNat) := by
  obtain ⟨m, hm, rfl, h1, rfl⟩ := h
  simp only [Int.toNat_natCast]
  have hm' : m < ws.length := by omega
  refine ⟨by omega, fun h2 h3 => ?_⟩
  have s1 := sum_nonneg fun x hx => (h1 x hx).1
  have s2 := sum_le (c := 1000) fun x hx => (h1 x hx).2
  rw [List.length_take] at s2
  rw [wrap64 (n := (m : Int) + 1) (by omega) (by omega), wrap64 (by omega) (by omega)]
  refine ⟨⟨m + 1, by omega, rfl, ?_, ?_⟩, by omega⟩
  · intro x hx
    rw [take_getD (d := (0 : Int)) hm', List.mem_append, List.mem_singleton] at hx
    rcases hx with hx | rfl
    · exact h1 x hx
    · exact ⟨h2, h3⟩
  · rw [take_getD (d := (0 : Int)) hm']; simp
theorem ir1_end {ws : List Int} {i w : Int} (h : IR1 ws i w) (hi : ws.length ≤ i) : w = allM ws ∧ ∀ x ∈ ws, 0 ≤ x ∧ x ≤ 1000 := by
  obtain ⟨m, hm, rfl, h1, rfl⟩ := h
  obtain rfl : m = ws.length := by omega
  rw [List.take_length] at *
  exact ⟨rfl, h1⟩
theorem rightM_no {a : Int} {ws : List Int} (h : rightM a ws = true → False) : rightM a ws = false := by
  cases e : rightM a ws with
  | false => rfl
  | true => exact (h e).elim
theorem split_no {a : Int} {ws : List Int} (h : rightM a ws = true → False) : [] = splitL a ws ∧ false = rightM a ws := by
  have := rightM_no h
  simp [splitL, this]
def IR2 (a : Int) (ws : List Int) (i sum : Int) (out : List Int) : Prop := ∃ m : Nat, m ≤ ws.length ∧ i = m ∧ sum = (mapTo (qM a ws) m).sum ∧ out = fillTo (qM a ws) m ws.length
theorem ir2_more {a : Int} {ws : List Int} {i sum : Int} {out : List Int} (hG : GoodM a ws) (h : IR2 a ws i sum out) (hi : i < ws.length) :
    0 ≤ i ∧ out.length = ws.length ∧ IntKind.i64.wrap (IntKind.i64.wrap (a * ws.getD i.toNat 0) |>.tdiv (allM ws)) = qM a ws i.toNat ∧ (out.set i.toNat (qM a ws i.toNat)).getD i.toNat 0 = qM a ws i.toNat ∧
      IR2 a ws (IntKind.i64.wrap (i + 1)) (IntKind.i64.wrap (sum + qM a ws i.toNat)) (out.set i.toNat (qM a ws i.toNat)) ∧ ws.length - (IntKind.i64.wrap (i + 1)).toNat < ws.length - i.toNat := by
  obtain ⟨m, hm, rfl, rfl, rfl⟩ := h
  have hm' : m < ws.length := by omega
  obtain ⟨f1, f2, f3, f4, f5, f6, f7⟩ := isp_more (a := a) (ws := ws) (left := a - (mapTo (qM a ws) m).sum) (i := (m : Int)) hG ⟨m, hm, rfl, rfl, rfl, rfl⟩ hi
  obtain ⟨p1, p2⟩ := hG.part hm
  obtain ⟨q1, q2, _⟩ := hG.q hm'
  have hl := hG.len
  refine ⟨f1, f2, f4, f5, ?_, f7⟩
  simp only [Int.toNat_natCast]
  rw [wrap64 (n := (m : Int) + 1) (by omega) (by omega), wrap64 (by omega) (by omega)]
  exact ⟨m + 1, by omega, rfl, by rw [mapTo_sum_succ], fillTo_set hm'⟩
theorem ir2_end {a : Int} {ws : List Int} {i sum : Int} {out : List Int} (h : IR2 a ws i sum out) (hi : ws.length ≤ i) : sum = a - leftM a ws ∧ out = mapTo (qM a ws) ws.length := by
  obtain ⟨m, hm, rfl, rfl, rfl⟩ := h
  obtain rfl : m = ws.length := by omega
  exact ⟨by unfold leftM; omega, fillTo_full⟩
def moreM (a : Int) (ws : List Int) (k : Nat) : List Bool := (List.range ws.length).map fun i : Nat => decide (rank (kM a ws) ws.length (i : Int) < k)
def IR3 (a : Int) (ws : List Int) (sum : Int) (out : List Int) (more : List Bool) : Prop := ∃ k : Nat, k ≤ (leftM a ws).toNat ∧ sum = a - leftM a ws + k ∧ out = mapTo (upM a ws k) ws.length ∧ more = moreM a ws k
theorem moreM_length {a : Int} {ws : List Int} {k : Nat} : (moreM a ws k).length = ws.length := by simp [moreM]
theorem moreM_get {a : Int} {ws : List Int} {k i : Nat} (h : i < ws.length) : (moreM a ws k).getD i false = decide (rank (kM a ws) ws.length (i : Int) < k) := by simp [moreM, List.getD, h]
theorem ir3_zero {a : Int} {ws : List Int} : IR3 a ws (a - leftM a ws) (mapTo (qM a ws) ws.length) (List.replicate ws.length false) := by
  refine ⟨0, Nat.zero_le _, by omega, mapTo_congr fun i _ => by simp [upM, bonus], ?_⟩
  unfold moreM
  apply List.ext_getElem?
  intro k
  by_cases hk : k < ws.length
  · simp [hk]
  · simp [hk]
/-- The best so far of those that have none. -/
def IR4 (a : Int) (ws : List Int) (sum i best : Int) : Prop := ∃ (m k : Nat), m ≤ ws.length ∧ i = m ∧ sum = a - leftM a ws + k ∧
  ((best = -1 ∧ ∀ j : Nat, j < m → rank (kM a ws) ws.length (j : Int) < k) ∨ ∃ b : Nat, b < m ∧ best = b ∧ k ≤ rank (kM a ws) ws.length (b : Int) ∧ ∀ j : Nat, j < m → k ≤ rank (kM a ws) ws.length (j : Int) → ¬ ahead (kM a ws) (j : Int) (b : Int))
theorem ir4_zero {a : Int} {ws : List Int} {sum : Int} {out : List Int} {more : List Bool} (h : IR3 a ws sum out more) : IR4 a ws sum 0 (-1) := by
  obtain ⟨k, _, rfl, _, _⟩ := h
  exact ⟨0, k, Nat.zero_le _, rfl, rfl, .inl ⟨rfl, fun j hj => by omega⟩⟩
theorem key_of {a : Int} {ws : List Int} (hG : GoodM a ws) {i : Int} (h : 0 ≤ i) (hi : i < ws.length) : (IntKind.i64.wrap (a * ws.getD i.toNat 0)).tmod (allM ws) = kM a ws i := by
  obtain ⟨w1, w2, w3, w4⟩ := hG.at (i := i.toNat) (by omega)
  rw [wrap64 (by omega) (by omega), Int.tmod_eq_emod_of_nonneg w3]
  rfl
theorem ir4_more {a : Int} {ws : List Int} {sum i best : Int} {out : List Int} {more : List Bool} (hG : GoodM a ws) (h3 : IR3 a ws sum out more) (h4 : IR4 a ws sum i best) (hi : i < ws.length) :
    0 ≤ i ∧ more.length = ws.length ∧ (best < 0 ∨ 0 ≤ best ∧ best < ws.length) ∧ (ws.length - (IntKind.i64.wrap (i + 1)).toNat < ws.length - i.toNat) ∧ (IntKind.i64.wrap (a * ws.getD i.toNat 0)).tmod (allM ws) = kM a ws i ∧ (0 ≤ best → (IntKind.i64.wrap (a * ws.getD best.toNat 0)).tmod (allM ws) = kM a ws best) ∧
    (more.getD i.toNat false = true → IR4 a ws sum (IntKind.i64.wrap (i + 1)) best) ∧ (more.getD i.toNat false = false → best < 0 → IR4 a ws sum (IntKind.i64.wrap (i + 1)) i) ∧
    (more.getD i.toNat false = false → 0 ≤ best → kM a ws best < kM a ws i → IR4 a ws sum (IntKind.i64.wrap (i + 1)) i) ∧ (more.getD i.toNat false = false → 0 ≤ best → kM a ws i ≤ kM a ws best → IR4 a ws sum (IntKind.i64.wrap (i + 1)) best) := by
  obtain ⟨k, hk, rfl, rfl, rfl⟩ := h3
  obtain ⟨m, k', hm, rfl, hs, hb⟩ := h4
  obtain rfl : k' = k := by omega
  have hm' : m < ws.length := by omega
  have hl := hG.len
  have hb' : best < 0 ∨ 0 ≤ best ∧ best < ws.length := by
    rcases hb with ⟨rfl, _⟩ | ⟨b, h1, rfl, _⟩ <;> omega
  simp only [Int.toNat_natCast, moreM_get hm', decide_eq_true_eq, decide_eq_false_iff_not]
  rw [wrap64 (n := (m : Int) + 1) (by omega) (by omega)]
  have step : ∀ j : Nat, j < m + 1 → j < m ∨ j = m := fun j hj => by omega
  refine ⟨by omega, moreM_length, hb', by omega, by have := key_of hG (i := m) (by omega) (by omega); rwa [Int.toNat_natCast] at this, fun h0 => key_of hG h0 (by omega), fun h => ?_, fun h h0 => ?_, fun h h0 hlt => ?_, fun h h0 hle => ?_⟩
  · refine ⟨m + 1, k', by omega, rfl, hs, ?_⟩
    rcases hb with ⟨h1, h2⟩ | ⟨b, h1, h2, h3, h4⟩
    · refine .inl ⟨h1, fun j hj => ?_⟩
      rcases step j hj with h | rfl
      · exact h2 j h
      · exact h
    · refine .inr ⟨b, by omega, h2, h3, fun j hj hr => ?_⟩
      rcases step j hj with h | rfl
      · exact h4 j h hr
      · omega
  · refine ⟨m + 1, k', by omega, rfl, hs, .inr ⟨m, by omega, rfl, by omega, fun j hj hr => ?_⟩⟩
    rcases hb with ⟨h1, h2⟩ | ⟨b, h1, h2, h3, h4⟩
    · rcases step j hj with h | rfl
      · have := h2 j h; omega
      · exact ahead_irrefl
    · omega
  · refine ⟨m + 1, k', by omega, rfl, hs, .inr ⟨m, by omega, rfl, by omega, fun j hj hr => ?_⟩⟩
    rcases hb with ⟨h1, h2⟩ | ⟨b, h1, rfl, h3, h4⟩
    · omega
    · rcases step j hj with h | rfl
      · intro hc
        exact h4 j h hr (ahead_trans hc (.inl hlt))
      · exact ahead_irrefl
  · refine ⟨m + 1, k', by omega, rfl, hs, ?_⟩
    rcases hb with ⟨h1, h2⟩ | ⟨b, h1, rfl, h3, h4⟩
    · omega
    · refine .inr ⟨b, by omega, rfl, h3, fun j hj hr => ?_⟩
      rcases step j hj with h | rfl
      · exact h4 j h hr
      · unfold ahead; omega
theorem ir4_end {a : Int} {ws : List Int} {sum i best : Int} {out : List Int} {more : List Bool} (hG : GoodM a ws) (h3 : IR3 a ws sum out more) (h4 : IR4 a ws sum i best) (hi : ws.length ≤ i) (hlt : sum < a) :
    0 ≤ best ∧ best < ws.length ∧ out.length = ws.length ∧ more.length = ws.length ∧ IR3 a ws (IntKind.i64.wrap (sum + 1)) (out.set best.toNat (IntKind.i64.wrap (out.getD best.toNat 0 + 1))) (more.set best.toNat true) ∧ (a - IntKind.i64.wrap (sum + 1)).toNat < (a - sum).toNat := by
  obtain ⟨k, hk, rfl, rfl, rfl⟩ := h3
  obtain ⟨m, k', hm, rfl, hs, hb⟩ := h4
  obtain rfl : k' = k := by omega
  obtain rfl : m = ws.length := by omega
  obtain ⟨l1, l2⟩ := hG.left_in
  have hl := hG.len
  have a0 := hG.a0
  have a1 := hG.a1
  obtain ⟨t, ht, t1, t2, t3⟩ := bonus_next (key := kM a ws) (n := ws.length) (k := k') (by omega)
  have tr := rank_at (key := kM a ws) (n := ws.length) (k := k') (by omega)
  rw [t1] at tr
  have hbt : best = t := by
    rcases hb with ⟨h1, h2⟩ | ⟨b, h1, rfl, h3, h4⟩
    · have := h2 t ht; omega
    · have e1 := h4 t ht (by omega)
      by_cases e : b = t
      · rw [e]
      · exfalso
        rcases ahead_total (key := kM a ws) (x := (b : Int)) (y := (t : Int)) (by omega) with h | h
        · have := (ahead_rank (key := kM a ws) (n := ws.length) (i := (b : Int)) (j := (t : Int)) (by omega) (by omega) (by omega) (by omega)).2 h
          omega
        · exact e1 h
  subst hbt
  obtain ⟨q1, q2, _⟩ := hG.q ht
  simp only [Int.toNat_natCast]
  rw [wrap64 (n := a - leftM a ws + (k' : Int) + 1) (by omega) (by omega), mapTo_get ht, show upM a ws k' t = qM a ws t by unfold upM; omega, wrap64 (by omega) (by omega)]
  refine ⟨by omega, by omega, mapTo_length, moreM_length, ⟨k' + 1, by omega, by omega, mapTo_set ht ?_ ?_, ?_⟩, by omega⟩
  · unfold upM; rw [t3 t ht, if_pos rfl]; omega
  · intro i hi hne; unfold upM; rw [t3 i hi, if_neg hne]; omega
  · apply List.ext_getElem?
    intro i
    by_cases e : t = i
    · subst e
      rw [List.getElem?_set_self (by rw [moreM_length]; exact ht)]
      simp only [moreM, List.getElem?_map, List.getElem?_range ht, Option.map_some, tr]
      simp
    · rw [List.getElem?_set_ne e]
      by_cases hi : i < ws.length
      · simp only [moreM, List.getElem?_map, List.getElem?_range hi, Option.map_some]
        have h5 := t3 i hi
        rw [if_neg (fun h => e h.symm)] at h5
        unfold bonus at h5
        congr 1
        rw [decide_eq_decide]
        by_cases c1 : rank (kM a ws) ws.length (i : Int) < k'
        · exact ⟨fun _ => by omega, fun _ => c1⟩
        · by_cases c2 : rank (kM a ws) ws.length (i : Int) < k' + 1
          · rw [if_pos c2, if_neg c1] at h5; omega
          · exact ⟨fun h => absurd h c1, fun h => absurd h c2⟩
      · simp [moreM, hi]
theorem ir3_end {a : Int} {ws : List Int} {sum : Int} {out : List Int} {more : List Bool} (hG : GoodM a ws) (h3 : IR3 a ws sum out more) (h : a ≤ sum) : out = mapTo (shareM a ws) ws.length := by
  obtain ⟨k, hk, rfl, rfl, rfl⟩ := h3
  obtain ⟨l1, l2⟩ := hG.left_in
  obtain rfl : k = (leftM a ws).toNat := by omega
  rfl


theorem awk1 : splitL 10 [1, 1, 1] = [4, 3, 3] ∧ splitE 10 [1, 1, 1] = 0 ∧ sumV [1, -1, 7] = 7 ∧ sumE [1, -1, 7] = 0 := by decide
theorem splitL_length {a : Int} {ws : List Int} : (splitL a ws).length ≤ ws.length := by
  unfold splitL
  split
  · rw [mapTo_length]; exact Nat.le_refl _
  · simp
theorem splitL_len {a : Int} {ws : List Int} (h : rightM a ws = true) : (splitL a ws).length = ws.length := by
  unfold splitL
  rw [if_pos h, mapTo_length]


end Go.Proofs.Ythbmllekbbfobaa.Sx
