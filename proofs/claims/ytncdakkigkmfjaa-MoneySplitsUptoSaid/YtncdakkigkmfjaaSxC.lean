import Derived.Test.YtncdakkigkmfjaaSxB
/-! Elements and their cells. -/
namespace Go.Proofs.Ytncdakkigkmfjaa.Sx
open Go
set_option linter.unusedVariables false
set_option linter.unusedSimpArgs false

/-- The cells of an element out of other cells: whatever these stand for, those do. -/
def Covers (cs' cs : List CS) : Prop := cs'.length = cs.length ∧ ∀ (j : Nat) (e : CS), cs[j]? = some e → ∃ e', cs'[j]? = some e' ∧ ∀ Imm w v, CV Imm w e' v → CV Imm w e v
theorem Covers.refl (cs : List CS) : Covers cs cs := ⟨rfl, fun _ e h => ⟨e, h, fun _ _ _ h => h⟩⟩
theorem Covers.cons {c : CS} {l l' : List CS} (h : Covers l l') : Covers (c :: l) (c :: l') := by
  refine ⟨by simp [h.1], fun j e he => ?_⟩
  cases j with
  | zero => exact ⟨e, he, fun _ _ _ h => h⟩
  | succ j => exact h.2 j e he
theorem Covers.none {k : RK} {l l' : List CS} (h : Covers l l') : Covers (.v (.slice none 0 0) :: l) (.s k [] :: l') := by
  refine ⟨by simp [h.1], fun j e he => ?_⟩
  cases j with
  | zero =>
    simp at he
    subst he
    exact ⟨_, rfl, fun _ _ _ h => by cases h; exact .s0 _⟩
  | succ j => exact h.2 j e he
theorem dec_ok {k : RK} {cs : List CS} {x : El k} (h : dec k cs = some x) : Covers cs (enc k x) := by
  unfold dec at h
  split at h
  all_goals first
    | (obtain rfl := Option.some.inj h; exact Covers.refl _)
    | (obtain rfl := Option.some.inj h
       simp only [enc]
       repeat first
         | exact Covers.refl _
         | apply Covers.none
         | apply Covers.cons)
    | cases h
theorem dec_length {k : RK} {cs : List CS} {x : El k} (h : dec k cs = some x) : cs.length = sz k := by rw [(dec_ok h).1, enc_length]

theorem decAll_ok {k : RK} : ∀ {n : Nat} {cs : List CS} {xs : List (El k)}, decAll k n cs = some xs → cs.length = xs.length * sz k ∧
    ∀ (i j : Nat) (e : CS), i < xs.length → (enc k (xs.getD i (zK k)))[j]? = some e → ∃ e', cs[i * sz k + j]? = some e' ∧ ∀ Imm w v, CV Imm w e' v → CV Imm w e v := by
  intro n
  induction n with
  | zero =>
    intro cs xs h
    cases cs with
    | nil => simp [decAll] at h; subst h; exact ⟨by simp, fun i j e h => by simp at h⟩
    | cons c l => simp [decAll] at h
  | succ n ih =>
    intro cs xs h
    cases cs with
    | nil => simp [decAll] at h; subst h; exact ⟨by simp, fun i j e h => by simp at h⟩
    | cons c l =>
      unfold decAll at h
      split at h
      · rename_i x ys h1 h2
        obtain rfl := Option.some.inj h
        obtain ⟨g1, g2⟩ := ih h2
        have h3 := dec_length h1
        have hl : sz k ≤ (c :: l).length := by rw [List.length_take] at h3; omega
        refine ⟨?_, ?_⟩
        · rw [List.length_drop] at g1; rw [List.length_cons (a := x), Nat.add_mul]; omega
        · intro i j e hi he
          have hj : j < sz k := by
            have := (List.getElem?_eq_some_iff.1 he).1
            rwa [enc_length] at this
          cases i with
          | zero =>
            simp only [List.getD_cons_zero] at he
            obtain ⟨e', h4, h5⟩ := (dec_ok h1).2 j e he
            refine ⟨e', ?_, h5⟩
            rw [List.getElem?_take, if_pos hj] at h4
            simpa using h4
          | succ i =>
            simp only [List.getD_cons_succ] at he
            obtain ⟨e', h4, h5⟩ := g2 i j e (by simpa using hi) he
            refine ⟨e', ?_, h5⟩
            rw [List.getElem?_drop] at h4
            rw [← h4]
            congr 1
            rw [Nat.add_mul]; omega
      · cases h

section
variable {m : Nat → Place} {Imm : Nat → Prop} {H : VH} {w : World}

/-- A slice of a row, as an element's cell: the row's block belongs to what nobody writes from then on. -/
theorem slice_cell (hR : Rel m Imm H w) {u : List (Nat × Option VB)} {b i n c : Nat} {own : Bool} {k : RK} {ys : List (El k)} (hH : H b = some (.row own k ys)) (hi : i + n ≤ ys.length) (hc : n ≤ c)
    (hu : own = true → (b, some (.row false k ys)) ∈ u) : CV (ImmF m Imm u) w (.s k ((ys.drop i).take n)) (.slice (some ⟨(m b).blk, (m b).off + i * (m b).sz, none⟩) n c) := by
  obtain ⟨h1, h2, h3, h4, h5, h6⟩ := hR.hold b _ hH
  have hl : ((ys.drop i).take n).length = n := by simp; omega
  have get : ∀ i', i' < n → ((ys.drop i).take n).getD i' (zK k) = ys.getD (i + i') (zK k) := by
    intro i' hi'
    simp only [List.getD, List.getElem?_take, if_pos hi', List.getElem?_drop]
  have rd : ∀ i' j e, i' < n → (enc k (((ys.drop i).take n).getD i' (zK k)))[j]? = some e → ∃ v, w.cell? ⟨(m b).blk, (m b).off + i * (m b).sz + (i' * sz k + j), none⟩ = some v ∧ CV (ImmF m Imm u) w e v := by
    intro i' j e hi' he
    rw [get i' hi'] at he
    obtain ⟨v, h7, h8⟩ := h4 (i + i') j e (by omega) he
    refine ⟨v, ?_, h8.stays (fun _ h => .inl h) (fun _ _ => rfl)⟩
    rw [← h7, h1, Nat.add_mul]
    congr 2
    omega
  have key := CV.s (Imm := ImmF m Imm u) (w := w) k ((ys.drop i).take n) (m b).blk ((m b).off + i * (m b).sz) c (fun i' j => (w.cell? ⟨(m b).blk, (m b).off + i * (m b).sz + (i' * sz k + j), none⟩).getD undef)
    ?_ (by omega) ?_ ?_
  · rw [hl] at key; exact key
  · intro hne
    have hy : ys ≠ [] := by rintro rfl; simp at hne
    cases own with
    | false => exact .inl (h6 rfl hy)
    | true =>
      refine .inr ⟨_, hu rfl, ?_, rfl⟩
      have : 0 < ys.length := List.length_pos_iff.2 hy
      show 0 < (m b).cap
      omega
  · intro i' j e hi' he
    obtain ⟨v, h7, _⟩ := rd i' j e (by omega) he
    rw [h7]; rfl
  · intro i' j e hi' he
    obtain ⟨v, h7, h8⟩ := rd i' j e (by omega) he
    rw [h7]; exact h8

theorem CV.grow {Imm : Nat → Prop} {w : World} {u u' : List (Nat × Option VB)} (h : ∀ p ∈ u, p ∈ u') {c : CS} {v : Value} (k : CV (ImmF m Imm u) w c v) : CV (ImmF m Imm u') w c v := by
  refine k.stays (fun r hr => ?_) (fun _ _ => rfl)
  rcases hr with hr | ⟨p, hp, hc, hr⟩
  · exact .inl hr
  · exact .inr ⟨p, h p hp, hc, hr⟩

theorem toCS_ok (hR : Rel m Imm H w) : ∀ {xs : List SV} {cs : List CS} {u : List (Nat × Option VB)} {vs : List Value}, toCS H xs = some (cs, u) → Vs m xs vs →
    cs.length = vs.length ∧ Freezes H u ∧ ∀ (j : Nat) (e : CS), cs[j]? = some e → ∃ v, vs[j]? = some v ∧ CV (ImmF m Imm u) w e v := by
  intro xs
  induction xs with
  | nil =>
    intro cs u vs h hv
    simp [toCS] at h
    obtain ⟨rfl, rfl⟩ := h
    cases hv
    exact ⟨rfl, fun p hp => by simp at hp, fun j e h => by simp at h⟩
  | cons x l ih =>
    intro cs u vs h hv
    cases hv with
    | cons _ v _ r hx hr =>
      unfold toCS at h
      cases hl : toCS H l with
      | none => rw [hl] at h; cases h
      | some q =>
        obtain ⟨cs', u'⟩ := q
        rw [hl] at h
        obtain ⟨g1, g2, g3⟩ := ih hl hr
        have done : ∀ (e0 : CS) (u2 : List (Nat × Option VB)), (∀ p ∈ u', p ∈ u2) → Freezes H u2 → CV (ImmF m Imm u2) w e0 v →
            (e0 :: cs').length = (v :: r).length ∧ Freezes H u2 ∧ ∀ (j : Nat) (e : CS), (e0 :: cs')[j]? = some e → ∃ v', (v :: r)[j]? = some v' ∧ CV (ImmF m Imm u2) w e v' := by
          intro e0 u2 hs hf h0
          refine ⟨by simp [g1], hf, fun j e he => ?_⟩
          cases j with
          | zero => simp at he; subst he; exact ⟨v, rfl, h0⟩
          | succ j =>
            obtain ⟨v', h5, h6⟩ := g3 j e (by simpa using he)
            exact ⟨v', by simpa using h5, h6.grow hs⟩
        cases x with
        | val y =>
          simp at h; obtain ⟨rfl, rfl⟩ := h
          cases hx
          exact done _ _ (fun _ h => h) g2 (.v v)
        | slF b =>
          simp only at h
          split at h
          · rename_i own k ys hH
            obtain ⟨rfl, rfl⟩ := Prod.mk.inj (Option.some.inj h)
            have hu2 : Freezes H (if own = true then (b, some (VB.row false k ys)) :: u' else u') := by
              cases own
              · exact g2
              · intro p hp
                rcases List.mem_cons.1 hp with rfl | hp
                · exact ⟨k, ys, rfl, hH⟩
                · exact g2 p hp
            refine done _ _ (fun p hp => by cases own <;> simp [hp]) hu2 ?_
            have hlen : (m b).len = ys.length := (hR.hold b _ hH).2.1
            cases hx with
            | slF _ c h1 h2 =>
              have := slice_cell (u := if own = true then (b, some (VB.row false k ys)) :: u' else u') hR (i := 0) (n := ys.length) (c := c) hH (by omega) (by omega) (fun ho => by subst ho; simp)
              simpa [hlen] using this
            | slF0 _ h1 =>
              have : ys = [] := List.length_eq_zero_iff.1 (by omega)
              subst this
              exact .s0 k
          · cases h
        | slP b i n =>
          simp only at h
          split at h
          · rename_i own k ys hH
            obtain ⟨rfl, rfl⟩ := Prod.mk.inj (Option.some.inj h)
            have hu2 : Freezes H (if own = true then (b, some (VB.row false k ys)) :: u' else u') := by
              cases own
              · exact g2
              · intro p hp
                rcases List.mem_cons.1 hp with rfl | hp
                · exact ⟨k, ys, rfl, hH⟩
                · exact g2 p hp
            refine done _ _ (fun p hp => by cases own <;> simp [hp]) hu2 ?_
            have hlen : (m b).len = ys.length := (hR.hold b _ hH).2.1
            cases hx with
            | slP _ _ _ c h1 h2 h3 =>
              exact slice_cell (u := if own = true then (b, some (VB.row false k ys)) :: u' else u') hR hH (by omega) h1 (fun ho => by subst ho; simp)
            | slP0 _ _ a =>
              cases a with
              | none => simpa using CV.s0 k
              | some a =>
                have := CV.s (Imm := ImmF m Imm (if own = true then (b, some (VB.row false k ys)) :: u' else u')) (w := w) k [] a.1 a.2 0 (fun _ _ => undef) (fun h => absurd rfl h) (Nat.le_refl _) (fun i j e h => by simp at h) (fun i j e h => by simp at h)
                simpa using this
          · cases h
        | undef => cases h
        | ptr _ _ => cases h
        | elt _ _ _ => cases h
        | agg _ => cases h
        | tup _ => cases h
        | fn _ _ _ => cases h

theorem fromCS_keys : ∀ {cs : List CS} {k0 : Nat} {svs : List SV} {u : List (Nat × Option VB)}, fromCS k0 cs = (svs, u) → (svs.length = cs.length ∧ ∀ b ∈ idsL svs, k0 ≤ b) ∧ ∀ p ∈ u, k0 ≤ p.1 ∧ p.1 < k0 + cs.length ∧ ∃ k ys, p.2 = some (.row false k ys) := by
  intro cs
  induction cs with
  | nil => intro k0 svs u h; simp [fromCS] at h; obtain ⟨rfl, rfl⟩ := h; exact ⟨⟨rfl, fun b hb => by simp [idsL] at hb⟩, fun p hp => by simp at hp⟩
  | cons c l ih =>
    intro k0 svs u h
    cases c with
    | v x =>
      unfold fromCS at h
      split at h
      rename_i s2 u2 he
      obtain ⟨rfl, rfl⟩ := Prod.mk.inj h
      obtain ⟨⟨h1, h0⟩, h2⟩ := ih he
      exact ⟨⟨by simp [h1], fun b hb => by have := h0 b (by simpa [idsL, SV.ids] using hb); omega⟩, fun p hp => by obtain ⟨g1, g2, g3⟩ := h2 p hp; exact ⟨by omega, by simp; omega, g3⟩⟩
    | s k ys =>
      unfold fromCS at h
      split at h
      rename_i s2 u2 he
      obtain ⟨rfl, rfl⟩ := Prod.mk.inj h
      obtain ⟨⟨h1, h0⟩, h2⟩ := ih he
      refine ⟨⟨by simp [h1], fun b hb => ?_⟩, fun p hp => ?_⟩
      · simp [idsL, SV.ids] at hb
        rcases hb with rfl | hb
        · exact Nat.le_refl _
        · have := h0 b hb; omega
      rcases List.mem_cons.1 hp with rfl | hp
      · exact ⟨Nat.le_refl _, by simp, k, ys, rfl⟩
      · obtain ⟨g1, g2, g3⟩ := h2 p hp; exact ⟨by omega, by simp; omega, g3⟩
/-- An element's cells, read: what is a slice among them is a block of its own from now on. -/
theorem fromCS_ok {key : Nat} : ∀ {cs : List CS} {k0 : Nat} {svs : List SV} {u : List (Nat × Option VB)} {vs : List Value}, fromCS k0 cs = (svs, u) → Rel m Imm H w →
    (∀ j, j < cs.length → inRange key (k0 + j) = true ∧ ¬ UsedIn H (k0 + j)) → cs.length = vs.length →
    (∀ (j : Nat) (e : CS), cs[j]? = some e → ∃ v, vs[j]? = some v ∧ CV Imm w e v) → ∃ m', Vs m' svs vs ∧ Step m Imm H w m' Imm (upd u H) w key ∧ (∀ b, b < k0 → m' b = m b) := by
  intro cs
  induction cs with
  | nil =>
    intro k0 svs u vs h hR _ hl _
    simp [fromCS] at h
    obtain ⟨rfl, rfl⟩ := h
    cases vs with
    | nil => exact ⟨m, .nil, .refl hR key, fun _ _ => rfl⟩
    | cons v r => simp at hl
  | cons c l ih =>
    intro k0 svs u vs h hR hk hl hv
    cases vs with
    | nil => simp at hl
    | cons v r =>
      obtain ⟨v', hv1, hv2⟩ := hv 0 c rfl
      obtain rfl := Option.some.inj hv1
      have hv' : ∀ (j : Nat) (e : CS), l[j]? = some e → ∃ v, r[j]? = some v ∧ CV Imm w e v := fun j e h => hv (j + 1) e h
      have hk' : ∀ j, j < l.length → inRange key (k0 + 1 + j) = true ∧ ¬ UsedIn H (k0 + 1 + j) := fun j hj => by
        have := hk (j + 1) (by simpa using hj)
        rwa [show k0 + (j + 1) = k0 + 1 + j by omega] at this
      cases c with
      | v x =>
        unfold fromCS at h
        split at h
        rename_i s2 u2 he
        obtain ⟨rfl, rfl⟩ := Prod.mk.inj h
        obtain ⟨m', h1, h2, h3⟩ := ih he hR hk' (by simpa using hl) hv'
        cases hv2
        exact ⟨m', .cons _ _ _ _ (.val _) h1, h2, fun b hb => h3 b (by omega)⟩
      | s k ys =>
        unfold fromCS at h
        split at h
        rename_i s2 u2 he
        obtain ⟨rfl, rfl⟩ := Prod.mk.inj h
        obtain ⟨m', h1, h2, h3⟩ := ih he hR hk' (by simpa using hl) hv'
        obtain ⟨⟨_, hids⟩, hkeys⟩ := fromCS_keys he
        obtain ⟨hr0, hu0⟩ := hk 0 (by simp)
        rw [Nat.add_zero] at hr0 hu0
        have hfree : ¬ UsedIn (upd u2 H) k0 := by
          rintro (hn | ⟨b', cs', hb', hx⟩)
          · apply hu0
            left
            intro e
            apply hn
            rw [upd_same (H' := fun _ => none) (fun _ => by simp [e])]
            unfold upd
            cases e2 : lkN u2 k0 with
            | none => rfl
            | some q => have := (hkeys _ (lkN_some e2)).1; simp at this; omega
          · rcases upd_cases hb' with hp | ⟨_, hp⟩
            · obtain ⟨_, _, k', ys', h5⟩ := hkeys _ hp; simp at h5
            · exact hu0 (.inr ⟨b', cs', hp, hx⟩)
        cases hv2 with
        | s _ _ blk off c f hi hc2 hcell hf =>
          have hst := Step.view (key := key) h2.rel hfree hr0 k ys ⟨blk, off, sz k, c, ys.length⟩ rfl rfl hc2
            (fun i j e h4 h5 => ⟨f i j, hcell i j e h4 h5, hf i j e h4 h5⟩) hi
          refine ⟨setM m' k0 ⟨blk, off, sz k, c, ys.length⟩, .cons _ _ _ _ ?_ (h1.moved ?_), ?_, ?_⟩
          · have := V.slF (m := setM m' k0 ⟨blk, off, sz k, c, ys.length⟩) k0 c (by rw [setM_at]; exact hc2) (by rw [setM_at]; exact Nat.le_refl _)
            simpa [setM_at] using this
          · intro x hx
            refine setM_ne m' _ ?_
            rintro rfl
            have := hids x hx
            omega
          · have := h2.trans hst
            rwa [← upd_append] at this
          · intro b hb
            rw [setM_ne m' _ (by omega)]
            exact h3 b (by omega)
        | s0 _ =>
          have hst := Step.noRow (key := key) h2.rel hfree hr0 false k 0 0
          refine ⟨setM m' k0 ⟨0, 0, sz k, 0, 0⟩, .cons _ _ _ _ (.slF0 k0 (by rw [setM_at])) (h1.moved ?_), ?_, ?_⟩
          · intro x hx
            refine setM_ne m' _ ?_
            rintro rfl
            have := hids x hx
            omega
          · have := h2.trans hst
            rwa [← upd_append] at this
          · intro b hb
            rw [setM_ne m' _ (by omega)]
            exact h3 b (by omega)
end
end Go.Proofs.Ytncdakkigkmfjaa.Sx
