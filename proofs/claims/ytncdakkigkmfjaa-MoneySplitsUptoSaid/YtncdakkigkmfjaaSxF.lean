import Derived.Test.YtncdakkigkmfjaaSxV
/-! What an operation does to the blocks that it may look at, it does to all of them: the rest stays. -/
namespace Go.Proofs.Ytncdakkigkmfjaa.Sx
open Go
set_option linter.unusedVariables false
set_option linter.unusedSimpArgs false

def UsedIn (H : VH) (b : Nat) : Prop := H b ≠ none ∨ ∃ b' cs, H b' = some (.cells cs) ∧ b ∈ idsL cs
def Clean (key : Nat) (H : VH) : Prop := ∀ b, inRange key b = true → ¬ UsedIn H b

theorem hidden_some {ids : List Nat} {H : VH} {b : Nat} {vb : VB} (h : hidden ids H b = some vb) : b ∈ ids ∧ H b = some vb := by
  unfold hidden at h
  cases e : memN b ids with
  | false => rw [e] at h; cases h
  | true => rw [e] at h; exact ⟨(memN_iff b ids).1 e, h⟩
theorem hidden_in {ids : List Nat} (H : VH) {b : Nat} (h : b ∈ ids) : hidden ids H b = H b := by
  unfold hidden; rw [(memN_iff b ids).2 h]; rfl
theorem hidden_out {ids : List Nat} (H : VH) {b : Nat} (h : b ∉ ids) : hidden ids H b = none := by
  unfold hidden
  cases e : memN b ids with
  | false => rfl
  | true => exact absurd ((memN_iff b ids).1 e) h

theorem Rel.hidden {m : Nat → Place} {Imm : Nat → Prop} {H : VH} {w : World} (h : Rel m Imm H w) (ids : List Nat) : Rel m Imm (hidden ids H) w :=
  ⟨fun b vb e => h.hold b vb (hidden_some e).2, fun b b' vb vb' e e' o o' => h.dist b b' vb vb' (hidden_some e).2 (hidden_some e').2 o o', fun b vb e => h.apart b vb (hidden_some e).2, h.imm⟩
theorem Zone.hidden {m : Nat → Place} {H : VH} {w : World} {ids : List Nat} {r : Nat} (h : Zone m (hidden ids H) w r) : Zone m H w r := by
  rcases h with h | ⟨b, vb, e, o, rfl⟩
  · exact .inl h
  · exact .inr ⟨b, vb, (hidden_some e).2, o, rfl⟩

theorem upd_cases {u : List (Nat × Option VB)} {H : VH} {b : Nat} {vb : VB} (h : upd u H b = some vb) : (b, some vb) ∈ u ∨ ((∀ p ∈ u, p.1 ≠ b) ∧ H b = some vb) := by
  unfold upd at h
  cases e : lkN u b with
  | none => rw [e] at h; exact .inr ⟨lkN_none.1 e, h⟩
  | some v => rw [e] at h; simp at h; subst h; exact .inl (lkN_some e)
theorem upd_same {u : List (Nat × Option VB)} {H H' : VH} {b : Nat} (h : (∀ p ∈ u, p.1 ≠ b) → H b = H' b) : upd u H b = upd u H' b := by
  unfold upd
  cases e : lkN u b with
  | none => exact h (lkN_none.1 e)
  | some v => rfl

theorem Step.frame {m m' : Nat → Place} {Imm Imm' : Nat → Prop} {H : VH} {w w' : World} {key : Nat} {ids : List Nat} {u : List (Nat × Option VB)} (hR : Rel m Imm H w)
    (hS : Step m Imm (hidden ids H) w m' Imm' (upd u (hidden ids H)) w' key) (hu : ∀ p ∈ u, p.1 ∈ ids ∨ inRange key p.1 = true) (hc : Clean key H) :
    Step m Imm H w m' Imm' (upd u H) w' key := by
  -- what was outside, is outside, and its blocks are as they were
  have out : ∀ b vb, H b = some vb → b ∉ ids → m' b = m b := fun b vb e _ => hS.same b (by
    cases h : inRange key b with
    | false => rfl
    | true => exact absurd (.inl (by simp [e])) (hc b h))
  have imm : ∀ r, Imm r → w'.heap[r]? = w.heap[r]? := fun r hr => hS.keep r (hR.imm r hr) (by
    rintro (h | ⟨b, vb, e, o, rfl⟩)
    · have := hR.imm r hr; omega
    · exact hR.apart b vb (hidden_some e).2 o hr)
  have far : ∀ b vb, H b = some vb → b ∉ ids → Own (m b) vb → ¬ Zone m (hidden ids H) w (m b).blk := by
    rintro b vb e hb o (h | ⟨b2, vb2, e2, o2, h2⟩)
    · have := (hR.hold b vb e).lt o; omega
    · exact hR.dist b2 b vb2 vb (hidden_some e2).2 e o2 o (by rintro rfl; exact hb (hidden_some e2).1) h2
  -- each block of the new state: inside or outside
  have side : ∀ b vb, upd u H b = some vb → (upd u (hidden ids H) b = some vb) ∨ (b ∉ ids ∧ H b = some vb) := by
    intro b vb h
    by_cases hb : b ∈ ids
    · left; rw [← h]; exact upd_same fun _ => hidden_in H hb
    · rcases upd_cases h with hp | ⟨hp, hh⟩
      · left; rw [← h]
        refine upd_same fun hn => absurd rfl (hn _ hp)
      · exact .inr ⟨hb, hh⟩
  refine ⟨⟨?_, ?_, ?_, hS.rel.imm⟩, hS.same, hS.mono, fun r hr => (hS.zone r hr).imp id Zone.hidden, ?_, fun r h1 h2 => hS.keep r h1 (fun h => h2 h.hidden), hS.calm⟩
  · intro b vb h
    rcases side b vb h with h | ⟨hb, h⟩
    · exact hS.rel.hold b vb h
    · rw [out b vb h hb]
      refine (hR.hold b vb h).stays hS.mono imm ?_ ?_
      · intro o; exact hS.keep _ ((hR.hold b vb h).lt o) (far b vb h hb o)
      · rintro cs rfl b' hb'
        refine hS.same b' ?_
        cases e : inRange key b' with
        | false => rfl
        | true => exact absurd (.inr ⟨b, cs, h, hb'⟩) (hc b' e)
  · intro b b' vb vb' h h' o o' hne
    rcases side b vb h with h | ⟨hb, h⟩ <;> rcases side b' vb' h' with h' | ⟨hb', h'⟩
    · exact hS.rel.dist b b' vb vb' h h' o o' hne
    · rw [out b' vb' h' hb'] at o' ⊢
      intro e
      exact far b' vb' h' hb' o' (e ▸ hS.own b vb h o)
    · rw [out b vb h hb] at o ⊢
      intro e
      exact far b vb h hb o (e ▸ hS.own b' vb' h' o')
    · rw [out b vb h hb] at o ⊢
      rw [out b' vb' h' hb'] at o' ⊢
      exact hR.dist b b' vb vb' h h' o o' hne
  · intro b vb h o
    rcases side b vb h with h | ⟨hb, h⟩
    · exact hS.rel.apart b vb h o
    · rw [out b vb h hb] at o ⊢
      intro hr
      rcases hS.zone _ hr with hr | hr
      · exact hR.apart b vb h o hr
      · exact far b vb h hb o hr
  · intro b vb h o
    rcases side b vb h with h | ⟨hb, h⟩
    · exact (hS.own b vb h o).hidden
    · rw [out b vb h hb] at o ⊢
      exact .inr ⟨b, vb, h, o, rfl⟩

/-- Since the call began: Z: what it may write; I0: what nobody wrote then. -/
structure Since (Z I0 : Nat → Prop) (w0 : World) (m : Nat → Place) (Imm : Nat → Prop) (H : VH) (w : World) : Prop where
  rel : Rel m Imm H w
  mono : ∀ r, I0 r → Imm r
  zone : ∀ r, Imm r → I0 r ∨ Z r
  own : ∀ b vb, H b = some vb → Own (m b) vb → Z (m b).blk
  keep : ∀ r, r < w0.heap.size → ¬ Z r → w.heap[r]? = w0.heap[r]?
  calm : Calm w0 w
  big : ∀ r, w0.heap.size ≤ r → Z r

theorem Since.zoned {Z I0 : Nat → Prop} {w0 : World} {m : Nat → Place} {Imm : Nat → Prop} {H : VH} {w : World} (h : Since Z I0 w0 m Imm H w) {r : Nat} (hr : Zone m H w r) : Z r := by
  rcases hr with hr | ⟨b, vb, e, o, rfl⟩
  · exact h.big r (Nat.le_trans h.calm.size hr)
  · exact h.own b vb e o
theorem Since.step {Z I0 : Nat → Prop} {w0 : World} {m m' : Nat → Place} {Imm Imm' : Nat → Prop} {H H' : VH} {w w' : World} {key : Nat} (h : Since Z I0 w0 m Imm H w) (k : Step m Imm H w m' Imm' H' w' key) :
    Since Z I0 w0 m' Imm' H' w' := by
  refine ⟨k.rel, fun r hr => k.mono r (h.mono r hr), ?_, fun b vb e o => h.zoned (k.own b vb e o), ?_, h.calm.trans k.calm, h.big⟩
  · intro r hr
    rcases k.zone r hr with hr | hr
    · exact h.zone r hr
    · exact .inr (h.zoned hr)
  · intro r h1 h2
    rw [k.keep r (Nat.lt_of_lt_of_le h1 h.calm.size) (fun hz => h2 (h.zoned hz)), h.keep r h1 h2]
end Go.Proofs.Ytncdakkigkmfjaa.Sx
