import Derived.Test.YtncdakkigkmfjaaSxI
/-! Blocks under other numbers. -/
namespace Go.Proofs.Ytncdakkigkmfjaa.Sx
open Go
set_option linter.unusedVariables false
set_option linter.unusedSimpArgs false

mutual
def SV.ren (f : Nat → Nat) : SV → SV
  | .undef => .undef
  | .val x => .val x
  | .ptr b j => .ptr (f b) j
  | .elt b i j => .elt (f b) i j
  | .slF b => .slF (f b)
  | .slP b i n => .slP (f b) i n
  | .agg cs => .agg (renL f cs)
  | .tup cs => .tup (renL f cs)
  | .fn g a c => .fn g (renL f a) (renL f c)
def renL (f : Nat → Nat) : List SV → List SV
  | [] => []
  | x :: l => x.ren f :: renL f l
end
def VB.ren (f : Nat → Nat) : VB → VB
  | .cells cs => .cells (renL f cs)
  | .row o k xs => .row o k xs
def VB.ids : VB → List Nat
  | .cells cs => idsL cs
  | .row _ _ _ => []

mutual
theorem V.map {m m2 : Nat → Place} {f : Nat → Nat} : ∀ (s : SV) {v : Value}, V m s v → (∀ b ∈ s.ids, m2 (f b) = m b) → V m2 (s.ren f) v
  | .undef, v, _, _ => .undef v
  | .val x, v, h, _ => by cases h; exact .val x
  | .ptr b j, v, h, hm => by
    have e := hm b (by simp [SV.ids])
    cases h; rw [← e]; exact .ptr _ j
  | .elt b i j, v, h, hm => by
    have e := hm b (by simp [SV.ids])
    cases h; rw [← e]; exact .elt _ i j (by assumption)
  | .slF b, v, h, hm => by
    have e := hm b (by simp [SV.ids])
    cases h with
    | slF _ c h1 h2 => rw [← e] at h1 h2 ⊢; exact .slF _ c h1 h2
    | slF0 _ h1 => rw [← e] at h1; exact .slF0 _ h1
  | .slP b i n, v, h, hm => by
    have e := hm b (by simp [SV.ids])
    cases h with
    | slP _ _ _ c h1 h2 h3 => rw [← e] at h2 h3 ⊢; exact .slP _ i n c h1 h2 h3
    | slP0 _ _ a => exact .slP0 _ i a
  | .agg cs, v, h, hm => by cases h with | agg _ vs h => exact .agg _ vs (Vs.map cs h (by simpa [SV.ids] using hm))
  | .tup cs, v, h, hm => by cases h with | tup _ vs h => exact .tup _ vs (Vs.map cs h (by simpa [SV.ids] using hm))
  | .fn g a c, v, h, hm => by
    cases h with
    | fn _ _ _ va vc h1 h2 => exact .fn _ _ _ va vc (Vs.map a h1 fun b hb => hm b (by simp [SV.ids, hb])) (Vs.map c h2 fun b hb => hm b (by simp [SV.ids, hb]))
theorem Vs.map {m m2 : Nat → Place} {f : Nat → Nat} : ∀ (l : List SV) {r : List Value}, Vs m l r → (∀ b ∈ idsL l, m2 (f b) = m b) → Vs m2 (renL f l) r
  | [], r, h, _ => by cases h; exact .nil
  | s :: l, r, h, hm => by
    cases h with
    | cons _ x _ r hx hr => exact .cons _ _ _ _ (V.map s hx fun b hb => hm b (by simp [idsL, hb])) (Vs.map l hr fun b hb => hm b (by simp [idsL, hb]))
end
mutual
theorem V.unmap {m m2 : Nat → Place} {f : Nat → Nat} : ∀ (s : SV) {v : Value}, V m (s.ren f) v → (∀ b ∈ s.ids, m2 b = m (f b)) → V m2 s v
  | .undef, v, _, _ => .undef v
  | .val x, v, h, _ => by cases h; exact .val x
  | .ptr b j, v, h, hm => by
    have e := hm b (by simp [SV.ids])
    cases h; rw [← e]; exact .ptr _ j
  | .elt b i j, v, h, hm => by
    have e := hm b (by simp [SV.ids])
    cases h; rw [← e]; exact .elt _ i j (by assumption)
  | .slF b, v, h, hm => by
    have e := hm b (by simp [SV.ids])
    cases h with
    | slF _ c h1 h2 => rw [← e] at h1 h2 ⊢; exact .slF _ c h1 h2
    | slF0 _ h1 => rw [← e] at h1; exact .slF0 _ h1
  | .slP b i n, v, h, hm => by
    have e := hm b (by simp [SV.ids])
    cases h with
    | slP _ _ _ c h1 h2 h3 => rw [← e] at h2 h3 ⊢; exact .slP _ i n c h1 h2 h3
    | slP0 _ _ a => exact .slP0 _ i a
  | .agg cs, v, h, hm => by cases h with | agg _ vs h => exact .agg _ vs (Vs.unmap cs h (by simpa [SV.ids] using hm))
  | .tup cs, v, h, hm => by cases h with | tup _ vs h => exact .tup _ vs (Vs.unmap cs h (by simpa [SV.ids] using hm))
  | .fn g a c, v, h, hm => by
    cases h with
    | fn _ _ _ va vc h1 h2 => exact .fn _ _ _ va vc (Vs.unmap a h1 fun b hb => hm b (by simp [SV.ids, hb])) (Vs.unmap c h2 fun b hb => hm b (by simp [SV.ids, hb]))
theorem Vs.unmap {m m2 : Nat → Place} {f : Nat → Nat} : ∀ (l : List SV) {r : List Value}, Vs m (renL f l) r → (∀ b ∈ idsL l, m2 b = m (f b)) → Vs m2 l r
  | [], r, h, _ => by cases h; exact .nil
  | s :: l, r, h, hm => by
    cases h with
    | cons _ x _ r hx hr => exact .cons _ _ _ _ (V.unmap s hx fun b hb => hm b (by simp [idsL, hb])) (Vs.unmap l hr fun b hb => hm b (by simp [idsL, hb]))
end
mutual
theorem ren_ids (f : Nat → Nat) : ∀ (s : SV), (s.ren f).ids = s.ids.map f
  | .undef => rfl
  | .val _ => rfl
  | .ptr _ _ => rfl
  | .elt _ _ _ => rfl
  | .slF _ => rfl
  | .slP _ _ _ => rfl
  | .agg cs => by simp [SV.ren, SV.ids, renL_ids f cs]
  | .tup cs => by simp [SV.ren, SV.ids, renL_ids f cs]
  | .fn g a c => by simp [SV.ren, SV.ids, renL_ids f a, renL_ids f c]
theorem renL_ids (f : Nat → Nat) : ∀ (l : List SV), idsL (renL f l) = (idsL l).map f
  | [] => rfl
  | s :: l => by simp [renL, idsL, ren_ids f s, renL_ids f l]
end
theorem renL_length (f : Nat → Nat) : ∀ l : List SV, (renL f l).length = l.length
  | [] => rfl
  | _ :: l => by simp [renL, renL_length f l]
mutual
theorem ren_id {f : Nat → Nat} : ∀ (s : SV), (∀ b ∈ s.ids, f b = b) → s.ren f = s
  | .undef, _ => rfl
  | .val _, _ => rfl
  | .ptr b _, h => by simp [SV.ren, h b (by simp [SV.ids])]
  | .elt b _ _, h => by simp [SV.ren, h b (by simp [SV.ids])]
  | .slF b, h => by simp [SV.ren, h b (by simp [SV.ids])]
  | .slP b _ _, h => by simp [SV.ren, h b (by simp [SV.ids])]
  | .agg cs, h => by simp [SV.ren, renL_id cs (by simpa [SV.ids] using h)]
  | .tup cs, h => by simp [SV.ren, renL_id cs (by simpa [SV.ids] using h)]
  | .fn g a c, h => by simp [SV.ren, renL_id a (fun b hb => h b (by simp [SV.ids, hb])), renL_id c (fun b hb => h b (by simp [SV.ids, hb]))]
theorem renL_id {f : Nat → Nat} : ∀ (l : List SV), (∀ b ∈ idsL l, f b = b) → renL f l = l
  | [], _ => rfl
  | s :: l, h => by simp [renL, ren_id s (fun b hb => h b (by simp [idsL, hb])), renL_id l (fun b hb => h b (by simp [idsL, hb]))]
end

theorem Hold.map {m m2 : Nat → Place} {Imm : Nat → Prop} {w : World} {p : Place} {f : Nat → Nat} {vb : VB} (h : Hold m Imm w p vb) (hm : ∀ b ∈ vb.ids, m2 (f b) = m b) : Hold m2 Imm w p (vb.ren f) := by
  cases vb with
  | cells cs =>
    obtain ⟨h0, arr, t, h1, h2⟩ := h
    exact ⟨h0, arr, t, h1, Vs.map cs h2 hm⟩
  | row o k xs => exact h
theorem Hold.unmap {m m2 : Nat → Place} {Imm : Nat → Prop} {w : World} {p : Place} {f : Nat → Nat} {vb : VB} (h : Hold m Imm w p (vb.ren f)) (hm : ∀ b ∈ vb.ids, m2 b = m (f b)) : Hold m2 Imm w p vb := by
  cases vb with
  | cells cs =>
    obtain ⟨h0, arr, t, h1, h2⟩ := h
    exact ⟨h0, arr, t, h1, Vs.unmap cs h2 hm⟩
  | row o k xs => exact h
theorem Own.ren {p : Place} {f : Nat → Nat} {vb : VB} : Own p (vb.ren f) ↔ Own p vb := by
  cases vb with
  | cells cs => exact Iff.rfl
  | row o k xs => exact Iff.rfl

/-- What a state shows under other numbers: those below lim are the old ones. -/
structure Refit (H1 H0 : VH) (lim : Nat) (u : List (Nat × Option VB)) (f : Nat → Nat) : Prop where
  low : ∀ b, UsedIn H0 b → b < lim
  same : ∀ b, b < lim → f b = b
  told : ∀ b vb, lkN u b = some (some vb) → H1 (f b) = some (vb.ren f)
  rest : ∀ b, b < lim → lkN u b = none → H0 b ≠ none → H1 b = H0 b
  inj : ∀ b b' vb vb', lkN u b = some (some vb) → lkN u b' = some (some vb') → f b = f b' → b = b'
  sep : ∀ b vb b', lkN u b = some (some vb) → lkN u b' = none → b' < lim → H0 b' ≠ none → f b ≠ b'

theorem Refit.source {H1 H0 : VH} {lim : Nat} {u : List (Nat × Option VB)} {f : Nat → Nat} (h : Refit H1 H0 lim u f) {b : Nat} {vb : VB} (hb : upd u H0 b = some vb) :
    H1 (f b) = some (vb.ren f) ∧ ((lkN u b = some (some vb)) ∨ (lkN u b = none ∧ H0 b = some vb ∧ b < lim ∧ f b = b)) := by
  unfold upd at hb
  cases e : lkN u b with
  | some v =>
    rw [e] at hb
    simp only at hb
    subst hb
    exact ⟨h.told b vb e, .inl rfl⟩
  | none =>
    rw [e] at hb
    simp only at hb
    have hlt := h.low b (.inl (by rw [hb]; simp))
    refine ⟨?_, .inr ⟨rfl, hb, hlt, h.same b hlt⟩⟩
    rw [h.same b hlt, h.rest b hlt e (by rw [hb]; simp), hb]
    congr 1
    cases vb with
    | row => rfl
    | cells cs =>
      simp only [VB.ren]
      rw [renL_id cs fun x hx => h.same x (h.low x (.inr ⟨b, cs, hb, hx⟩))]
theorem Refit.rel {H1 H0 : VH} {lim : Nat} {u : List (Nat × Option VB)} {f : Nat → Nat} (h : Refit H1 H0 lim u f) {m : Nat → Place} {Imm : Nat → Prop} {w : World} (hR : Rel m Imm H1 w) : Rel (fun b => m (f b)) Imm (upd u H0) w := by
  refine ⟨?_, ?_, ?_, hR.imm⟩
  · intro b vb hb
    obtain ⟨h1, _⟩ := h.source hb
    exact (hR.hold (f b) _ h1).unmap fun _ _ => rfl
  · intro b b' vb vb' hb hb' o o' hne
    obtain ⟨h1, h2⟩ := h.source hb
    obtain ⟨h1', h2'⟩ := h.source hb'
    refine hR.dist (f b) (f b') _ _ h1 h1' (Own.ren.2 o) (Own.ren.2 o') fun e => hne ?_
    rcases h2 with h2 | ⟨h2, h3, h4, h5⟩ <;> rcases h2' with h2' | ⟨h2', h3', h4', h5'⟩
    · exact h.inj b b' vb vb' h2 h2' e
    · exact absurd (e.trans h5') (h.sep b vb b' h2 h2' h4' (by rw [h3']; simp))
    · exact absurd (e.symm.trans h5) (h.sep b' vb' b h2' h2 h4 (by rw [h3]; simp))
    · rw [← h5, ← h5', e]
  · intro b vb hb o
    obtain ⟨h1, _⟩ := h.source hb
    exact hR.apart (f b) _ h1 (Own.ren.2 o)
theorem Refit.own {H1 H0 : VH} {lim : Nat} {u : List (Nat × Option VB)} {f : Nat → Nat} (h : Refit H1 H0 lim u f) {Z : Nat → Prop} {m : Nat → Place} (hz : ∀ b vb, H1 b = some vb → Own (m b) vb → Z (m b).blk) {b : Nat} {vb : VB}
    (hb : upd u H0 b = some vb) (o : Own (m (f b)) vb) : Z (m (f b)).blk := by
  obtain ⟨h1, _⟩ := h.source hb
  exact hz (f b) _ h1 (Own.ren.2 o)
theorem Refit.since {H1 H0 : VH} {lim : Nat} {u : List (Nat × Option VB)} {f : Nat → Nat} (h : Refit H1 H0 lim u f) {Z I0 : Nat → Prop} {w0 w : World} {m : Nat → Place} {Imm : Nat → Prop} (hS : Since Z I0 w0 m Imm H1 w) : Since Z I0 w0 (fun b => m (f b)) Imm (upd u H0) w :=
  ⟨h.rel hS.rel, hS.mono, hS.zone, fun _ _ hb o => h.own hS.own hb o, hS.keep, hS.calm, hS.big⟩

/-! Numbers that are told by a list. -/
def tl (t : Ren) (b : Nat) : Nat := match lkN t b with
  | some c => c
  | none => b
/-- t' tells all that t tells. -/
def Ext (t t' : Ren) : Prop := ∀ j c, lkN t j = some c → lkN t' j = some c
theorem Ext.refl (t : Ren) : Ext t t := fun _ _ h => h
theorem Ext.trans {a b c : Ren} (h : Ext a b) (k : Ext b c) : Ext a c := fun _ _ e => k _ _ (h _ _ e)
theorem Ext.tl {t t' : Ren} (h : Ext t t') {j c : Nat} (e : lkN t j = some c) : tl t' j = c := by unfold Sx.tl; rw [h j c e]
theorem Ext.cons {t : Ren} {j c : Nat} (h : lkN t j = none) : Ext t ((j, c) :: t) := by
  intro i d e
  simp only [lkN]
  rw [beqN]
  by_cases hij : j = i
  · subst hij; rw [h] at e; cases e
  · rw [decide_eq_false hij]; exact e

theorem nodupN_ok : ∀ {l : List Nat}, nodupN l = true → l.Nodup
  | [], _ => List.nodup_nil
  | a :: l, h => by
    simp only [nodupN, Bool.and_eq_true, Bool.not_eq_true'] at h
    refine List.nodup_cons.2 ⟨fun ha => ?_, nodupN_ok h.2⟩
    rw [(memN_iff a l).2 ha] at h
    exact absurd h.1 (by simp)
theorem subN_ok : ∀ {l r : List Nat}, subN l r = true → ∀ a ∈ l, a ∈ r
  | [], _, _, a, ha => by simp at ha
  | b :: l, r, h, a, ha => by
    simp only [subN, Bool.and_eq_true, memN_iff] at h
    rcases List.mem_cons.1 ha with rfl | ha
    · exact h.1
    · exact subN_ok h.2 a ha
theorem lkN_mem {α : Type} {l : List (Nat × α)} {d : Nat} {v : α} (hn : (l.map (·.1)).Nodup) (h : (d, v) ∈ l) : lkN l d = some v := by
  induction l with
  | nil => simp at h
  | cons p l ih =>
    obtain ⟨e, x⟩ := p
    simp only [List.map_cons, List.nodup_cons] at hn
    simp only [lkN]
    rw [beqN]
    rcases List.mem_cons.1 h with h | h
    · cases h; simp
    · have : ¬ e = d := by
        rintro rfl
        exact hn.1 (List.mem_map.2 ⟨_, h, rfl⟩)
      rw [decide_eq_false this]
      exact ih hn.2 h
theorem lkN_snd {l : Ren} {j c : Nat} (h : lkN l j = some c) : c ∈ l.map (·.2) := List.mem_map.2 ⟨_, lkN_some h, rfl⟩
/-- Of numbers that are told, no two are told alike. -/
theorem lkN_inj : ∀ {l : Ren} {i j c : Nat}, (l.map (·.2)).Nodup → lkN l i = some c → lkN l j = some c → i = j
  | [], i, j, c, _, h, _ => by cases h
  | (e, x) :: l, i, j, c, hn, h, h' => by
    simp only [List.map_cons, List.nodup_cons] at hn
    simp only [lkN] at h h'
    rw [beqN] at h h'
    by_cases h1 : e = i <;> by_cases h2 : e = j
    · rw [← h1, ← h2]
    · simp only [h1, decide_true, cond_true, Option.some.injEq] at h
      rw [decide_eq_false h2] at h'
      subst h
      exact absurd (lkN_snd h') hn.1
    · simp only [h2, decide_true, cond_true, Option.some.injEq] at h'
      rw [decide_eq_false h1] at h
      subst h'
      exact absurd (lkN_snd h) hn.1
    · rw [decide_eq_false h1] at h
      rw [decide_eq_false h2] at h'
      exact lkN_inj hn.2 h h'
theorem undefs_lk : ∀ {l : List Nat} {d : Nat}, (d ∈ l ∧ lkN (undefs l) d = some .undef) ∨ (d ∉ l ∧ lkN (undefs l) d = none)
  | [], b => .inr ⟨by simp, rfl⟩
  | e :: l, b => by
    simp only [undefs, lkN]
    rw [beqN]
    by_cases h : e = b
    · subst h; exact .inl ⟨by simp, by simp⟩
    · rw [decide_eq_false h]
      rcases undefs_lk (l := l) (d := b) with ⟨h1, h2⟩ | ⟨h1, h2⟩
      · exact .inl ⟨by simp [h1], h2⟩
      · exact .inr ⟨by simp only [List.mem_cons, h1, or_false]; exact fun e' => h e'.symm, h2⟩
theorem nones_lk : ∀ {l : List Nat} {b : Nat}, (b ∈ l ∧ lkN (nones l) b = some none) ∨ (b ∉ l ∧ lkN (nones l) b = none)
  | [], b => .inr ⟨by simp, rfl⟩
  | e :: l, b => by
    simp only [nones, lkN]
    rw [beqN]
    by_cases h : e = b
    · subst h; exact .inl ⟨by simp, by simp⟩
    · rw [decide_eq_false h]
      rcases nones_lk (l := l) (b := b) with ⟨h1, h2⟩ | ⟨h1, h2⟩
      · exact .inl ⟨by simp [h1], h2⟩
      · exact .inr ⟨by simp only [List.mem_cons, h1, or_false]; exact fun e' => h e'.symm, h2⟩
end Go.Proofs.Ytncdakkigkmfjaa.Sx
