import Derived.Test.YtncdakkigkmfjaaSxT
/-! The steps that operations are made of: nothing, a new block, a view, a row that is no longer written, a write in place. -/
namespace Go.Proofs.Ytncdakkigkmfjaa.Sx
open Go
set_option linter.unusedVariables false
set_option linter.unusedSimpArgs false

def setM (m : Nat → Place) (key : Nat) (p : Place) : Nat → Place := fun b => if b = key then p else m b
theorem setM_at (m : Nat → Place) (key : Nat) (p : Place) : setM m key p key = p := by simp [setM]
theorem setM_ne (m : Nat → Place) {key b : Nat} (p : Place) (h : b ≠ key) : setM m key p b = m b := by simp [setM, h]

theorem upd_nil (H : VH) : upd [] H = H := rfl
theorem upd_cons (b : Nat) (v : Option VB) (u : List (Nat × Option VB)) (H : VH) : upd ((b, v) :: u) H = fun x => if x = b then v else upd u H x := by
  funext x
  simp only [upd, lkN]
  rw [beqN]
  by_cases h : b = x
  · subst h; simp
  · have : ¬ x = b := fun e => h e.symm
    simp [h, this]
theorem upd_append (u r : List (Nat × Option VB)) (H : VH) : upd (u ++ r) H = upd u (upd r H) := by
  funext x
  simp only [upd]
  rw [lkN_append]
  cases lkN u x <;> rfl

variable {m : Nat → Place} {Imm : Nat → Prop} {H : VH} {w : World} {key : Nat}

theorem Step.refl (hR : Rel m Imm H w) (key : Nat) : Step m Imm H w m Imm H w key :=
  ⟨hR, fun _ _ => rfl, fun _ h => h, fun _ h => .inl h, fun b vb e o => .inr ⟨b, vb, e, o, rfl⟩, fun _ _ _ => rfl, Calm.refl w⟩

theorem Step.trans {m1 m2 : Nat → Place} {Imm1 Imm2 : Nat → Prop} {H1 H2 : VH} {w1 w2 : World} (h : Step m Imm H w m1 Imm1 H1 w1 key) (k : Step m1 Imm1 H1 w1 m2 Imm2 H2 w2 key) : Step m Imm H w m2 Imm2 H2 w2 key := by
  have zz : ∀ r, Zone m1 H1 w1 r → Zone m H w r := by
    rintro r (hr | ⟨b, vb, e, o, rfl⟩)
    · exact .inl (Nat.le_trans h.calm.size hr)
    · exact h.own b vb e o
  refine ⟨k.rel, fun b hb => (k.same b hb).trans (h.same b hb), fun r hr => k.mono r (h.mono r hr), ?_, fun b vb e o => zz _ (k.own b vb e o), ?_, h.calm.trans k.calm⟩
  · intro r hr
    rcases k.zone r hr with hr | hr
    · exact h.zone r hr
    · exact .inr (zz r hr)
  · intro r h1 h2
    rw [k.keep r (Nat.lt_of_lt_of_le h1 h.calm.size) (fun hz => h2 (zz r hz)), h.keep r h1 h2]

theorem Clean.none {key b : Nat} (h : Clean key H) (hb : inRange key b = true) : H b = none := by
  cases e : H b with
  | none => rfl
  | some v => exact absurd (.inl (by simp [e])) (h b hb)
theorem Clean.ne {key b b' : Nat} {cs : List SV} (h : Clean key H) (hb : inRange key b = true) (hH : H b' = some (.cells cs)) : ∀ x ∈ idsL cs, x ≠ b := by
  rintro x hx rfl
  exact h x hb (.inr ⟨b', cs, hH, hx⟩)
theorem inRange_self (key : Nat) : inRange key key = true := (inRange_iff key key).2 ⟨Nat.le_refl _, by unfold stride; omega⟩

theorem calm_alloc (w : World) (o : Obj) : Calm w (w.alloc o) := ⟨rfl, rfl, rfl, by simp⟩

/-- One block more, with a place of its own; the world as it was, or with new blocks. -/
theorem Step.add {w' : World} (hR : Rel m Imm H w) {b : Nat} (hc : ¬ UsedIn H b) (hb : inRange key b = true) (p : Place) (vb : VB) (hcalm : Calm w w') (hkeep : ∀ r, r < w.heap.size → w'.heap[r]? = w.heap[r]?)
    (hp : Own p vb → w.heap.size ≤ p.blk) (hv : Hold (setM m b p) Imm w' p vb) : Step m Imm H w (setM m b p) Imm (upd [(b, some vb)] H) w' key := by
  have hi : ∀ r, Imm r → w'.heap[r]? = w.heap[r]? := fun r hr => hkeep r (hR.imm r hr)
  have ne : ∀ b' cs, H b' = some (.cells cs) → ∀ x ∈ idsL cs, x ≠ b := by rintro b' cs h x hx rfl; exact hc (.inr ⟨b', cs, h, hx⟩)
  rw [upd_cons, upd_nil]
  refine ⟨⟨?_, ?_, ?_, fun r hr => Nat.lt_of_lt_of_le (hR.imm r hr) hcalm.size⟩, ?_, fun _ h => h, fun _ h => .inl h, ?_, fun r h1 _ => hkeep r h1, hcalm⟩
  · intro b' vb' h
    by_cases e : b' = b
    · subst e; simp at h; subst h; rw [setM_at]; exact hv
    · simp only [e, if_false] at h
      rw [setM_ne m p e]
      exact (hR.hold b' vb' h).stays (fun _ h => h) hi (fun o => hkeep _ ((hR.hold b' vb' h).lt o)) (fun cs hcs x hx => setM_ne m p (ne b' cs (hcs ▸ h) x hx))
  · intro b1 b2 v1 v2 h1 h2 o1 o2 hne
    by_cases e1 : b1 = b <;> by_cases e2 : b2 = b
    · exact absurd (e1.trans e2.symm) hne
    · subst e1; simp only [if_true] at h1; obtain rfl := Option.some.inj h1
      simp only [e2, if_false] at h2
      rw [setM_at] at o1 ⊢; rw [setM_ne m p e2] at o2 ⊢
      have := hp o1; have := (hR.hold b2 v2 h2).lt o2; omega
    · subst e2; simp only [if_true] at h2; obtain rfl := Option.some.inj h2
      simp only [e1, if_false] at h1
      rw [setM_at] at o2 ⊢; rw [setM_ne m p e1] at o1 ⊢
      have := hp o2; have := (hR.hold b1 v1 h1).lt o1; omega
    · simp only [e1, if_false] at h1; simp only [e2, if_false] at h2
      rw [setM_ne m p e1] at o1 ⊢; rw [setM_ne m p e2] at o2 ⊢
      exact hR.dist b1 b2 v1 v2 h1 h2 o1 o2 hne
  · intro b' vb' h o
    by_cases e : b' = b
    · subst e; simp only [if_true] at h; obtain rfl := Option.some.inj h
      rw [setM_at] at o ⊢
      intro hr
      have := hp o; have := hR.imm _ hr; omega
    · simp only [e, if_false] at h
      rw [setM_ne m p e] at o ⊢
      exact hR.apart b' vb' h o
  · intro x hx
    exact setM_ne m p (by rintro rfl; rw [hb] at hx; cases hx)
  · intro b' vb' h o
    by_cases e : b' = b
    · subst e; simp only [if_true] at h; obtain rfl := Option.some.inj h
      rw [setM_at] at o ⊢
      exact .inl (hp o)
    · simp only [e, if_false] at h
      rw [setM_ne m p e] at o ⊢
      exact .inr ⟨b', vb', h, o, rfl⟩

theorem alloc_keep (w : World) (o : Obj) : ∀ r, r < w.heap.size → (w.alloc o).heap[r]? = w.heap[r]? := fun r h => Go.RowKit.Below.heap_alloc w o r h
theorem alloc_new (w : World) (o : Obj) : (w.alloc o).heap[w.heap.size]? = some o := by
  show (w.heap.push o)[w.heap.size]? = _
  simp

/-- A variable that is made. -/
theorem Step.newCells (hR : Rel m Imm H w) {b : Nat} (hc : ¬ UsedIn H b) (hb : inRange key b = true) (arr : Array Value) (t : TypeId) (cs : List SV) (hv : Vs m cs arr.toList) (hcs : ∀ x ∈ idsL cs, x ≠ b) (s c n : Nat) :
    Step m Imm H w (setM m b ⟨w.heap.size, 0, s, c, n⟩) Imm (upd [(b, some (.cells cs))] H) (w.alloc (.cells arr t)) key := by
  refine Step.add hR hc hb _ _ (calm_alloc w _) (alloc_keep w _) (fun _ => Nat.le_refl _) ⟨rfl, arr, t, alloc_new w _, hv.moved fun x hx => setM_ne m _ (hcs x hx)⟩
/-- A row that is made: room for c elements. -/
theorem Step.newRow (hR : Rel m Imm H w) {b : Nat} (hc : ¬ UsedIn H b) (hb : inRange key b = true) (arr : Array Value) (t : TypeId) (k : RK) (xs : List (El k)) (c : Nat) (hl : xs.length ≤ c) (hsz : arr.size = c * sz k)
    (hv : ∀ i j e, i < xs.length → (enc k (xs.getD i (zK k)))[j]? = some e → ∃ v, arr[i * sz k + j]? = some v ∧ CV Imm w e v) :
    Step m Imm H w (setM m b ⟨w.heap.size, 0, sz k, c, xs.length⟩) Imm (upd [(b, some (.row true k xs))] H) (w.alloc (.cells arr t)) key := by
  refine Step.add hR hc hb _ _ (calm_alloc w _) (alloc_keep w _) (fun _ => Nat.le_refl _) ⟨rfl, rfl, hl, ?_, fun _ _ => ⟨rfl, arr, t, alloc_new w _, hsz⟩, fun h => by cases h⟩
  intro i j e h1 h2
  obtain ⟨v, h3, h4⟩ := hv i j e h1 h2
  refine ⟨v, ?_, h4.stays (fun _ h => h) (fun r hr => alloc_keep w _ r (hR.imm r hr))⟩
  simp only [World.cell?, alloc_new, Nat.zero_add]
  simpa using h3
/-- A row without elements that lies nowhere. -/
theorem Step.noRow (hR : Rel m Imm H w) {b : Nat} (hc : ¬ UsedIn H b) (hb : inRange key b = true) (own : Bool) (k : RK) (blk off : Nat) :
    Step m Imm H w (setM m b ⟨blk, off, sz k, 0, 0⟩) Imm (upd [(b, some (.row own k []))] H) w key := by
  refine Step.add hR hc hb _ _ (Calm.refl w) (fun _ _ => rfl) ?_ ⟨rfl, rfl, Nat.le_refl _, fun i j e h => by simp at h, fun _ h => absurd h (Nat.lt_irrefl 0), fun _ h => absurd rfl h⟩
  intro o
  cases own
  · exact absurd o (by simp [Own])
  · exact absurd o (Nat.lt_irrefl 0)
/-- A row that lies in memory that nobody writes. -/
theorem Step.view (hR : Rel m Imm H w) {b : Nat} (hc : ¬ UsedIn H b) (hb : inRange key b = true) (k : RK) (xs : List (El k)) (p : Place) (h1 : p.sz = sz k) (h2 : p.len = xs.length) (h3 : xs.length ≤ p.cap) (h4 : Reads Imm w p k xs)
    (h5 : xs ≠ [] → Imm p.blk) : Step m Imm H w (setM m b p) Imm (upd [(b, some (.row false k xs))] H) w key :=
  Step.add hR hc hb _ _ (Calm.refl w) (fun _ _ => rfl) (fun o => absurd o (by simp [Own])) ⟨h1, h2, h3, h4, (fun h => by cases h), fun _ h => h5 h⟩

/-- A block whose place stays is written. -/
theorem Step.write {w' : World} (hR : Rel m Imm H w) {b : Nat} {vb vb' : VB} (hH : H b = some vb) (ho : Own (m b) vb) (ho' : Own (m b) vb') (hcalm : Calm w w') (hkeep : ∀ r, r ≠ (m b).blk → w'.heap[r]? = w.heap[r]?)
    (hv : Hold m Imm w' (m b) vb') (key : Nat) : Step m Imm H w m Imm (upd [(b, some vb')] H) w' key := by
  have hi : ∀ r, Imm r → w'.heap[r]? = w.heap[r]? := fun r hr => hkeep r (by rintro rfl; exact hR.apart b vb hH ho hr)
  rw [upd_cons, upd_nil]
  refine ⟨⟨?_, ?_, ?_, fun r hr => Nat.lt_of_lt_of_le (hR.imm r hr) hcalm.size⟩, fun _ _ => rfl, fun _ h => h, fun _ h => .inl h, ?_, ?_, hcalm⟩
  · intro b' vb2 h
    by_cases e : b' = b
    · subst e; simp at h; subst h; exact hv
    · simp only [e, if_false] at h
      exact (hR.hold b' vb2 h).stays (fun _ h => h) hi (fun o => hkeep _ (hR.dist b' b vb2 vb h hH o ho e)) (fun _ _ _ _ => rfl)
  · intro b1 b2 v1 v2 h1 h2 o1 o2 hne
    by_cases e1 : b1 = b <;> by_cases e2 : b2 = b
    · exact absurd (e1.trans e2.symm) hne
    · subst e1; simp only [e2, if_false] at h2; exact hR.dist b1 b2 vb v2 hH h2 ho o2 hne
    · subst e2; simp only [e1, if_false] at h1; exact hR.dist b1 b2 v1 vb h1 hH o1 ho hne
    · simp only [e1, if_false] at h1; simp only [e2, if_false] at h2; exact hR.dist b1 b2 v1 v2 h1 h2 o1 o2 hne
  · intro b' vb2 h o
    by_cases e : b' = b
    · subst e; exact hR.apart b' vb hH ho
    · simp only [e, if_false] at h; exact hR.apart b' vb2 h o
  · intro b' vb2 h o
    by_cases e : b' = b
    · subst e; exact .inr ⟨b', vb, hH, ho, rfl⟩
    · simp only [e, if_false] at h; exact .inr ⟨b', vb2, h, o, rfl⟩
  · intro r _ h2
    exact hkeep r (by rintro rfl; exact h2 (.inr ⟨b, vb, hH, ho, rfl⟩))

/-- Blocks that are given up. -/
theorem Step.drop (hR : Rel m Imm H w) (b : Nat) (key : Nat) : Step m Imm H w m Imm (upd [(b, none)] H) w key := by
  rw [upd_cons, upd_nil]
  have hs : ∀ b' vb, (if b' = b then none else H b') = some vb → H b' = some vb := by intro b' vb h; split at h <;> simp_all
  exact ⟨⟨fun b' vb h => hR.hold b' vb (hs b' vb h), fun b1 b2 v1 v2 h1 h2 => hR.dist b1 b2 v1 v2 (hs _ _ h1) (hs _ _ h2), fun b' vb h => hR.apart b' vb (hs _ _ h), hR.imm⟩,
    fun _ _ => rfl, fun _ h => h, fun _ h => .inl h, fun b' vb h o => .inr ⟨b', vb, hs _ _ h, o, rfl⟩, fun _ _ _ => rfl, Calm.refl w⟩

/-- Rows that are no longer written. -/
def Freezes (H : VH) (u : List (Nat × Option VB)) : Prop := ∀ p ∈ u, ∃ k ys, p.2 = some (.row false k ys) ∧ H p.1 = some (.row true k ys)
def ImmF (m : Nat → Place) (Imm : Nat → Prop) (u : List (Nat × Option VB)) (r : Nat) : Prop := Imm r ∨ ∃ p ∈ u, 0 < (m p.1).cap ∧ (m p.1).blk = r
theorem Step.freeze (hR : Rel m Imm H w) {u : List (Nat × Option VB)} (hu : Freezes H u) (key : Nat) : Step m Imm H w m (ImmF m Imm u) (upd u H) w key := by
  have hm : ∀ r, Imm r → ImmF m Imm u r := fun r h => .inl h
  have own : ∀ b vb, upd u H b = some vb → Own (m b) vb → (∀ p ∈ u, p.1 ≠ b) ∧ H b = some vb := by
    intro b vb h o
    rcases upd_cases h with hp | h
    · obtain ⟨k, ys, h1, _⟩ := hu _ hp
      obtain rfl := Option.some.inj h1
      exact absurd o (by simp [Own])
    · exact h
  refine ⟨⟨?_, ?_, ?_, ?_⟩, fun _ _ => rfl, hm, ?_, fun b vb h o => .inr ⟨b, vb, (own b vb h o).2, o, rfl⟩, fun _ _ _ => rfl, Calm.refl w⟩
  · intro b vb h
    rcases upd_cases h with hp | ⟨_, h⟩
    · obtain ⟨k, ys, h1, h2⟩ := hu _ hp
      obtain rfl := Option.some.inj h1
      obtain ⟨g1, g2, g3, g4, _, _⟩ := hR.hold b _ h2
      refine ⟨g1, g2, g3, g4.stays hm (fun _ _ => rfl) (fun _ => rfl), (fun h => by cases h), fun _ hne => .inr ⟨_, hp, ?_, rfl⟩⟩
      have : 0 < ys.length := List.length_pos_iff.2 hne
      show 0 < (m b).cap
      omega
    · exact (hR.hold b vb h).stays hm (fun _ _ => rfl) (fun _ => rfl) (fun _ _ _ _ => rfl)
  · intro b1 b2 v1 v2 h1 h2 o1 o2 hne
    exact hR.dist b1 b2 v1 v2 (own _ _ h1 o1).2 (own _ _ h2 o2).2 o1 o2 hne
  · intro b vb h o
    obtain ⟨h1, h2⟩ := own b vb h o
    rintro (hr | ⟨p, hp, hc, hr⟩)
    · exact hR.apart b vb h2 o hr
    · obtain ⟨k, ys, _, h4⟩ := hu p hp
      exact hR.dist p.1 b _ vb h4 h2 hc o (h1 p hp) hr
  · rintro r (hr | ⟨p, hp, hc, rfl⟩)
    · exact hR.imm r hr
    · obtain ⟨k, ys, _, h4⟩ := hu p hp
      exact (hR.hold p.1 _ h4).lt hc
  · rintro r (hr | ⟨p, hp, hc, rfl⟩)
    · exact .inl hr
    · obtain ⟨k, ys, _, h4⟩ := hu p hp
      exact .inr (.inr ⟨p.1, _, h4, hc, rfl⟩)
end Go.Proofs.Ytncdakkigkmfjaa.Sx
