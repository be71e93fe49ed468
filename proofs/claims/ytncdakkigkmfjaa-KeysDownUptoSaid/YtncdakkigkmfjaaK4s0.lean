import Derived.Test.YtncdakkigkmfjaaProg
import Derived.Test.YtncdakkigkmfjaaSxU
import Derived.IntWalk
import Derived.Test.YtncdakkigkmfjaaK3
/-! fareboxlaw09 -/
namespace Go.Proofs.Ytncdakkigkmfjaa.Sx
open Go
set_option linter.unusedVariables false
set_option linter.unusedSimpArgs false
set_option maxRecDepth 100000


theorem level_three {k : Key} (h : level k = 3) : right k = true ∧ k.op ≠ 0 ∧ k.ty ≠ 0 ∧ k.card ≠ 0 := by
  have hr := level_right.1 (show 0 ≤ level k by omega)
  refine ⟨hr, ?_⟩
  unfold level at h
  simp [right] at hr
  rw [if_neg (by simp [right]; omega)] at h
  (repeat' split at h) <;> omega
theorem level_one {o v : Int} : level ⟨o, 0, 0, v⟩ = 1 ↔ (1 ≤ o ∧ o ≤ 4 ∧ 1 ≤ v ∧ v ≤ 255) := by
  simp [level, right]
  (repeat' split) <;> omega
theorem three_from {k : Key} (h : level k = 3) (o v : Int) (ho : o ≠ 0) : fromK k [⟨o, 0, 0, v⟩] = (decide (o = k.op) && decide (v = k.ver)) := by
  obtain ⟨hr, h1, h2, h3⟩ := level_three h
  rw [from_one, hr, h, Bool.true_and]
  show anc 3 k _ = _
  rw [Bool.eq_iff_iff]
  obtain ⟨a, b, c, d⟩ := k
  simp [anc, atK] at *
  omega
theorem three_two {k : Key} (h : level k = 3) : fromK k [⟨k.op, 0, 0, k.ver⟩, ⟨0, 0, 0, k.ver⟩] = true := by
  obtain ⟨hr, h1, h2, h3⟩ := level_three h
  have hn : (level k).toNat = 3 := by rw [h]; rfl
  simp [fromK, hr, hn, anc, atK]
theorem one_three {k : Key} (h : level k = 3) (h1 : level ⟨k.op, 0, 0, k.ver⟩ = 1) : fromK ⟨k.op, 0, 0, k.ver⟩ [k] = false := by
  rcases apartC ⟨k.op, 0, 0, k.ver⟩ k with a | ⟨_, _, _, a, _⟩
  · exact a
  · omega
theorem threeD {k : Key} (h : level k = 3) (op ver : Int) : batchK k.op k.ver = (⟨k.op, 0, 0, k.ver⟩, 0) ∧ fromK k [⟨k.op, 0, 0, k.ver⟩, ⟨0, 0, 0, k.ver⟩] = true ∧ fromK ⟨k.op, 0, 0, k.ver⟩ [k] = false ∧ (level ⟨op, 0, 0, ver⟩ = 1 → fromK k [⟨op, 0, 0, ver⟩] = (decide (op = k.op) && decide (ver = k.ver))) := by
  obtain ⟨hr, h1, h2, h3⟩ := level_three h
  have h1 : level ⟨k.op, 0, 0, k.ver⟩ = 1 := level_one.2 (by simp [right] at hr; omega)
  refine ⟨?_, three_two h, one_three h h1, fun ho => three_from h op ver ?_⟩
  · rcases batchC k.op k.ver with c | c
    · exact c.2
    · exact absurd h1 c.1
  · have := level_one.1 ho; omega
theorem prodD (p : Product) (op ver : Int) : (product p = (zkey, 2)) ∨ (product p = (⟨p.owner, p.kind, p.card, p.ver⟩, 0) ∧ batchK p.owner p.ver = (⟨p.owner, 0, 0, p.ver⟩, 0) ∧ level ⟨p.owner, p.kind, p.card, p.ver⟩ = 3 ∧ fromK ⟨p.owner, p.kind, p.card, p.ver⟩ [⟨p.owner, 0, 0, p.ver⟩, ⟨0, 0, 0, p.ver⟩] = true ∧ fromK ⟨p.owner, 0, 0, p.ver⟩ [⟨p.owner, p.kind, p.card, p.ver⟩] = false ∧ (level ⟨op, 0, 0, ver⟩ = 1 → fromK ⟨p.owner, p.kind, p.card, p.ver⟩ [⟨op, 0, 0, ver⟩] = (decide (op = p.owner) && decide (ver = p.ver)))) := by
  rcases prodC p with ⟨h, hp⟩ | ⟨h, hp⟩
  · obtain ⟨h1, h2, h3, h4⟩ := threeD h op ver
    exact .inr ⟨hp, h1, h, h2, h3, h4⟩
  · exact .inl hp


end Go.Proofs.Ytncdakkigkmfjaa.Sx
