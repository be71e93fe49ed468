import Derived.Test.YtncdakkigkmfjaaProg
import Derived.Test.YtncdakkigkmfjaaSxU
import Derived.IntWalk
import Derived.Test.YtncdakkigkmfjaaF6
/-! fare, FareBatches -/
namespace Go.Proofs.Ytncdakkigkmfjaa.Sx
open Go
set_option linter.unusedVariables false
set_option linter.unusedSimpArgs false
set_option maxRecDepth 100000


theorem putBB_length (x : Batch) : (putBB x).length ≤ 6 + 19 * x.js.length := by
  unfold putBB
  split
  · simp only [List.length_append, be_length, form_length]; omega
  · simp
theorem getB_length (b : List Int) : (getB b).js.length ≤ b.length := by
  unfold getB
  split
  · show (getJ (b.drop 6)).length ≤ _
    have := getJ_length (b.drop 6)
    rw [List.length_drop] at this
    omega
  · simp [zB]
theorem four {q : List Int} (h : q.length = 4) : ∃ a b c d, q = [a, b, c, d] := by
  match q, h with
  | [a, b, c, d], _ => exact ⟨a, b, c, d, rfl⟩
theorem six {q : List Int} (h : 6 ≤ q.length) : ∃ a b c d e f r, q = a :: b :: c :: d :: e :: f :: r := by
  match q, h with
  | a :: b :: c :: d :: e :: f :: r, _ => exact ⟨a, b, c, d, e, f, r, rfl⟩
theorem getB_putBB {x : Batch} (h : rightB x = true) : getBE (putBB x) = 0 ∧ getB (putBB x) = x := by
  obtain ⟨h1, h2, h3, h4, h5⟩ := (rightB_iff x).1 h
  obtain ⟨op, n, js⟩ := x
  simp only at h1 h2 h3 h4 h5
  have l4 := be_length 4 n
  have hf := form_length js
  have hn : num (be 4 n) = n := num_be 4 n (by omega) (by rw [show (2 : Int) ^ (8 * 4) = 4294967296 from rfl]; omega)
  obtain ⟨a1, a2, a3, a4, hq⟩ := four l4
  have e : putBB ⟨op, n, js⟩ = op :: a1 :: a2 :: a3 :: a4 :: (js.length : Int) :: form js := by
    unfold putBB
    rw [if_pos h]
    show be 1 op ++ be 4 n ++ be 1 (js.length : Int) ++ form js = _
    rw [be_one (n := op) (by omega) (by omega), be_one (n := (js.length : Int)) (by omega) (by omega), wrapU8 (by omega) (by omega), wrapU8 (by omega) (by omega), hq]
    rfl
  rw [hq] at hn
  have hl : (op :: a1 :: a2 :: a3 :: a4 :: (js.length : Int) :: form js).length = 6 + 19 * js.length := by simp only [List.length_cons]; omega
  have hb : batchOf (op :: a1 :: a2 :: a3 :: a4 :: (js.length : Int) :: form js) = ⟨op, n, js⟩ := by
    unfold batchOf
    rw [rd3 (by omega)]
    show (⟨op, num [a1, a2, a3, a4], getJ (form js)⟩ : Batch) = _
    rw [(getJ_form h4).2, hn]
  have h6 : (op :: a1 :: a2 :: a3 :: a4 :: (js.length : Int) :: form js).getD 5 0 = (js.length : Int) := rfl
  have e0 : getBE (op :: a1 :: a2 :: a3 :: a4 :: (js.length : Int) :: form js) = 0 := by
    unfold getBE
    rw [hb, hl, h6, if_neg (by omega), if_neg (by omega), h]
    rfl
  rw [e]
  exact ⟨e0, by unfold getB; rw [if_pos e0, hb]⟩
theorem putBB_getB {b : List Int} (hB : isB b) (e : getBE b = 0) : rightB (getB b) = true ∧ putBB (getB b) = b := by
  have e2 : getB b = batchOf b := by unfold getB; rw [if_pos e]
  have e' := e
  unfold getBE at e'
  split at e'
  · exact absurd e' (by decide)
  split at e'
  · exact absurd e' (by decide)
  split at e'
  · rename_i k1 k2 hr
    rw [e2]
    refine ⟨hr, ?_⟩
    have h5 := hB.getD 5
    have h0 := hB.getD 0
    obtain ⟨j, hj, hj5⟩ : ∃ j : Nat, b.length = 6 + 19 * j ∧ b.getD 5 0 = j := ⟨(b.getD 5 0).toNat, by omega, by omega⟩
    have hl : (b.drop 6).length = 19 * j := by rw [List.length_drop]; omega
    have hd : batchOf b = ⟨b.getD 0 0, num ((b.drop 1).take 4), getJ (b.drop 6)⟩ := by unfold batchOf; rw [rd3 (by omega)]; rfl
    have hr' := hr
    rw [hd] at hr'
    have h3 := ((rightB_iff _).1 hr').2.2.1
    have h3 : 1 ≤ (getJ (b.drop 6)).length ∧ (getJ (b.drop 6)).length ≤ 8 := h3
    have eJ : getJE (b.drop 6) = 0 := by
      by_cases g : getJE (b.drop 6) = 0
      · exact g
      · have : getJ (b.drop 6) = [] := by unfold getJ; rw [if_neg g]
        rw [this] at h3
        exact absurd h3.1 (by decide)
    have f1 := (form_getJ (hB.drop 6)).2 eJ
    have f2 := form_length (getJ (b.drop 6))
    rw [f1, hl] at f2
    have f3 : (getJ (b.drop 6)).length = j := by omega
    have b4 : be 4 (num ((b.drop 1).take 4)) = (b.drop 1).take 4 := by
      have := be_num ((hB.drop 1).take 4)
      rw [List.length_take, List.length_drop] at this
      rwa [show min 4 (b.length - 1) = 4 by omega] at this
    unfold putBB
    rw [if_pos hr, hd]
    show be 1 (b.getD 0 0) ++ be 4 (num ((b.drop 1).take 4)) ++ be 1 ((getJ (b.drop 6)).length : Int) ++ form (getJ (b.drop 6)) = b
    rw [f1, f3, ← hj5, b4, be_one h0.1 h0.2, be_one h5.1 h5.2, wrapU8 h0.1 h0.2, wrapU8 h5.1 h5.2]
    obtain ⟨c0, c1, c2, c3, c4, c5, r, rfl⟩ := six (q := b) (by omega)
    rfl
  · exact absurd e' (by decide)


end Go.Proofs.Ytncdakkigkmfjaa.Sx
