import Derived.Test.YtncdakkigkmfjaaProg
import Derived.Test.YtncdakkigkmfjaaSxU
import Derived.IntWalk
import Derived.Test.YtncdakkigkmfjaaK3a
/-! fareboxlaw09 -/
namespace Go.Proofs.Ytncdakkigkmfjaa.Sx
open Go
set_option linter.unusedVariables false
set_option linter.unusedSimpArgs false
set_option maxRecDepth 100000


theorem anc_ver : ∀ {n : Nat} {x a : Key}, anc n x a = true → x.ver = a.ver
  | 0, x, a, h => by simp [anc] at h; rw [h]
  | n + 1, x, a, h => by
    simp only [anc, Bool.or_eq_true, decide_eq_true_eq] at h
    rcases h with h | h
    · rw [h]
    · exact (anc_ver (n := n) h : (atK x n 0).ver = a.ver)
theorem from_ver {x a : Key} (h : x.ver ≠ a.ver) : fromK x [a] = false := by
  unfold fromK
  cases hc : anc (level x).toNat x a with
  | false => simp [hc]
  | true => exact absurd (anc_ver hc) h
theorem rollC (k : Key) : (right k = false ∧ roll k = (zkey, 2)) ∨ (right k = true ∧ k.ver = 255 ∧ roll k = (zkey, 29)) ∨ (right k = true ∧ k.ver ≠ 255 ∧ roll k = (⟨k.op, k.ty, k.card, k.ver + 1⟩, 0) ∧ fromK ⟨k.op, k.ty, k.card, k.ver + 1⟩ [k] = false ∧ IntKind.i64.wrap (k.ver + 1) = k.ver + 1) := by
  unfold roll
  cases h : right k
  · simp
  · by_cases hv : k.ver = 255
    · simp [hv]
    · have hw : IntKind.i64.wrap (k.ver + 1) = k.ver + 1 := by
        simp [right] at h
        rw [wrap64] <;> omega
      simp [hv, hw]
      exact from_ver (by simp; omega)
theorem prodC (p : Product) : (level ⟨p.owner, p.kind, p.card, p.ver⟩ = 3 ∧ product p = (⟨p.owner, p.kind, p.card, p.ver⟩, 0)) ∨ (level ⟨p.owner, p.kind, p.card, p.ver⟩ ≠ 3 ∧ product p = (zkey, 2)) := by
  unfold product prodKey
  split
  · exact .inr ⟨‹_›, rfl⟩
  · exact .inl ⟨by omega, rfl⟩
theorem batchC (o v : Int) : (level ⟨o, 0, 0, v⟩ = 1 ∧ batchK o v = (⟨o, 0, 0, v⟩, 0)) ∨ (level ⟨o, 0, 0, v⟩ ≠ 1 ∧ batchK o v = (zkey, 2)) := by
  unfold batchK
  split
  · exact .inr ⟨‹_›, rfl⟩
  · exact .inl ⟨by omega, rfl⟩


end Go.Proofs.Ytncdakkigkmfjaa.Sx
