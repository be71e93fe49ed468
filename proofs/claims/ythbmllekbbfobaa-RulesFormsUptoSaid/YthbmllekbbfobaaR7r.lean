import Derived.Test.YthbmllekbbfobaaProg
import Derived.Test.YthbmllekbbfobaaSxU
import Derived.IntWalk
import Derived.Test.YthbmllekbbfobaaR6
/-! rules, forms -/
namespace Go.Proofs.Ythbmllekbbfobaa.Sx
open Go
set_option linter.unusedVariables false
set_option linter.unusedSimpArgs false
set_option maxRecDepth 100000

theorem num_be2 {n : Int} (h : 0 ≤ n ∧ n ≤ 1000) : num (be 2 n) = n := by
  simp only [be, List.nil_append, num, List.foldl_append, List.foldl_cons, List.foldl_nil]
  omega
theorem wds_flat : ∀ {ws : List Int}, (∀ n ∈ ws, 0 ≤ n ∧ n ≤ 1000) → wds ws.length (ws.flatMap (be 2)) = ws
  | [], _ => rfl
  | x :: ws, h => by
    have ih := wds_flat (ws := ws) fun n hn => h n (by simp [hn])
    have h2 : (be 2 x).length = 2 := be_length 2 x
    rw [List.flatMap_cons, List.length_cons, wds, List.take_left' h2, List.drop_left' h2, ih, num_be2 (h x (by simp))]
theorem form_back {r : Rule} (h : rightR r 4 = true) : readE (formR r) = 0 ∧ readR (formR r) = r := by
  obtain ⟨o, p, ws⟩ := r
  obtain ⟨h1, hm⟩ := rightR_iff.1 h
  simp only at h1 hm
  have e : formR ⟨o, p, ws⟩ = o :: p :: (ws.length : Int) :: ws.flatMap (be 2) := by
    simp only [formR, headR, be, List.nil_append, List.cons_append, Int.emod_eq_of_lt (show 0 ≤ o by omega) (show o < 256 by omega), Int.emod_eq_of_lt (show 0 ≤ p by omega) (show p < 256 by omega), Int.emod_eq_of_lt (show (0 : Int) ≤ ws.length by omega) (show (ws.length : Int) < 256 by omega)]
  have hl : (formR ⟨o, p, ws⟩).length = 3 + 2 * ws.length := by rw [e]; simp only [List.length_cons, flat2_len]; omega
  have g0 : (formR ⟨o, p, ws⟩).getD 0 0 = o := by rw [e]; rfl
  have g1 : (formR ⟨o, p, ws⟩).getD 1 0 = p := by rw [e]; rfl
  have g2 : (formR ⟨o, p, ws⟩).getD 2 0 = ws.length := by rw [e]; rfl
  have g3 : wds ws.length ((formR ⟨o, p, ws⟩).drop 3) = ws := by
    rw [e]
    exact wds_flat (rightM_rng hm)
  have := readE_ok (b := formR ⟨o, p, ws⟩) (k := ws.length) (by omega) (by rw [g2, hl]; omega) (by rw [g2]) (by rw [g0, g1, g3]; exact h)
  rw [g0, g1, g3] at this
  exact this
theorem be_num2 {x y : Int} (hx : 0 ≤ x ∧ x < 256) (hy : 0 ≤ y ∧ y < 256) : be 2 (num [x, y]) = [x, y] := by
  simp only [be, num, List.foldl_cons, List.foldl_nil, List.nil_append, List.cons_append]
  congr 1
  · omega
  · congr 1; omega
theorem flat_wds : ∀ {k : Nat} {l : List Int}, isB l → l.length = 2 * k → (wds k l).flatMap (be 2) = l
  | 0, l, _, h => by rw [List.length_eq_zero_iff.1 (by omega : l.length = 0)]; rfl
  | k + 1, [], _, h => by simp only [List.length_nil] at h; omega
  | k + 1, [x], _, h => by simp only [List.length_cons, List.length_nil] at h; omega
  | k + 1, x :: y :: l, hB, h => by
    have ih := flat_wds (k := k) (l := l) (fun z hz => hB z (by simp [hz])) (by simp only [List.length_cons] at h; omega)
    rw [wds]
    show (num [x, y] :: wds k l).flatMap (be 2) = _
    rw [List.flatMap_cons, ih, be_num2 (hB x (by simp)) (hB y (by simp))]
    rfl
theorem read_form {b : List Int} (hB : isB b) (h : readE b = 0) : rightR (readR b) 4 = true ∧ formR (readR b) = b := by
  have h' := h
  unfold readE at h'
  split at h'
  · cases h'
  · rename_i c1
    split at h'
    · cases h'
    · rename_i c2
      split at h'
      · rename_i c3
        have hr : readR b = readC b := by rw [readR, if_pos h]
        have h3 : 3 ≤ b.length := by omega
        have hb2 := hB _ (mem_getD (d := (0 : Int)) (show 2 < b.length by omega))
        rw [hr]
        refine ⟨c3, ?_⟩
        match b, h3 with
        | x :: y :: z :: l, _ =>
          have hx := hB x (by simp)
          have hy := hB y (by simp)
          have hz := hB z (by simp)
          simp only [List.length_cons, List.getD_cons_succ, List.getD_cons_zero] at c1 c2
          have hk : ((x :: y :: z :: l).length - 3) / 2 = l.length / 2 := by simp only [List.length_cons]; omega
          have hw := wds_length (l.length / 2) l
          show headR x y (wds (((x :: y :: z :: l).length - 3) / 2) l) ++ (wds (((x :: y :: z :: l).length - 3) / 2) l).flatMap (be 2) = _
          rw [hk, flat_wds (fun q hq => hB q (by simp [hq])) (by omega)]
          simp only [headR, be, List.nil_append, List.cons_append, hw, Int.emod_eq_of_lt hx.1 hx.2, Int.emod_eq_of_lt hy.1 hy.2]
          rw [show ((l.length / 2 : Nat) : Int) % 256 = z by omega]
      · cases h'
theorem readR_w {b : List Int} (hB : isB b) : (readR b).weights.length ≤ b.length ∧ ∀ n ∈ (readR b).weights, -9223372036854775808 ≤ n ∧ n ≤ 9223372036854775807 := by
  unfold readR
  split
  · simp only [readC, wds_length]
    exact ⟨by omega, wds_64 fun y hy => hB y (List.mem_of_mem_drop hy)⟩
  · simp
theorem formB_yes {r : Rule} (h : rightR r 4 = true) : formB r = formR r ∧ formE r = 0 := by
  unfold formB formE
  rw [if_pos h, if_pos h]
  exact ⟨rfl, rfl⟩
theorem formB_no {r : Rule} (h : rightR r 4 = false) : formB r = [] ∧ formE r = 2 := by
  unfold formB formE
  rw [h]
  exact ⟨rfl, rfl⟩
theorem formR_isB (r : Rule) : isB (formR r) := by
  intro x hx
  simp only [formR, headR, List.mem_append, List.mem_flatMap] at hx
  rcases hx with (h | h | h) | ⟨y, _, h⟩
  all_goals exact be_isB _ _ x h
theorem formR_len (r : Rule) : (formR r).length = 3 + 2 * r.weights.length := by rw [formR, List.length_append, head_len, flat2_len]


end Go.Proofs.Ythbmllekbbfobaa.Sx
