import Derived.Test.YtncdakkigkmfjaaProg
import Derived.Test.YtncdakkigkmfjaaSxU
import Derived.IntWalk
import Derived.Test.YtncdakkigkmfjaaF4s3
/-! fare, its laws -/
namespace Go.Proofs.Ytncdakkigkmfjaa.Sx
open Go
set_option linter.unusedVariables false
set_option linter.unusedSimpArgs false
set_option maxRecDepth 100000


theorem good_append (a b : List Journey) : good (a ++ b) = (good a && good b) := by simp [good]
theorem form_append (a b : List Journey) : form (a ++ b) = form a ++ form b := by simp [form]
theorem bytesStr_append (a b : List Int) : bytesStr (a ++ b) = bytesStr a ++ bytesStr b := by
  unfold bytesStr
  apply ByteArray.ext
  simp
theorem sum_le {c : Int} : ∀ {l : List Int}, (∀ n ∈ l, 0 ≤ n ∧ n ≤ c) → 0 ≤ l.sum ∧ l.sum ≤ c * l.length
  | [], _ => by simp
  | x :: l, h => by
    have h1 := h x (by simp)
    have h2 := sum_le (l := l) fun n hn => h n (by simp [hn])
    simp only [List.sum_cons, List.length_cons]
    rw [Int.natCast_add, Int.mul_add]
    omega
theorem totV_le (js : List Journey) : 0 ≤ totV js ∧ totV js ≤ 2147483648 * js.length := by
  unfold totV
  split
  · rename_i h
    have := sum_le (fares_in h)
    rw [List.length_map] at this
    exact this
  · omega
theorem totV_append' (a b : List Journey) : totV (a ++ b) = if (good a && good b) = true then totV a + totV b else 0 := by
  unfold totV
  rw [good_append]
  cases good a <;> cases good b <;> simp
theorem totV_append {a b : List Journey} (ha : good a = true) (hb : good b = true) : totV (a ++ b) = totV a + totV b := by
  unfold totV
  rw [good_append, ha, hb]
  simp
theorem bytesStr_size (a : List Int) : (bytesStr a).size = a.length := by simp [bytesStr, ByteArray.size]


end Go.Proofs.Ytncdakkigkmfjaa.Sx
