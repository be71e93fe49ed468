import Derived.Test.YtncdakkigkmfjaaSxY
/-! A region's operations done in the world: in the text's order, and in each that may be drawn. -/
namespace Go.Proofs.Ytncdakkigkmfjaa.Sx
open Go
set_option linter.unusedVariables false
set_option linter.unusedSimpArgs false

def Used (g : Nat → SV) (H : VH) (b : Nat) : Prop := UsedIn H b ∨ ∃ d, b ∈ (g d).ids
structure Env where
  Z : Nat → Prop
  I0 : Nat → Prop
  w0 : World
  wide : Nat
  low : Nat
  m0 : Nat → Place
structure Live (E : Env) (m : Nat → Place) (Imm : Nat → Prop) (g : Nat → SV) (H : VH) (a : Act) (w : World) : Prop where
  since : Since E.Z E.I0 E.w0 m Imm H w
  slots : Slots m g a
  size : a.tmps.size = E.wide
  defers : a.defers = []
  same : ∀ b, b < E.low → m b = E.m0 b

variable {P : Program} {T : TT} {Γ : List (Nat × GC)} {E : Env} {m m' : Nat → Place} {Imm Imm' : Nat → Prop} {g : Nat → SV} {H H' : VH} {a : Act} {w w' : World} {key : Nat} {s : SV} {u : List (Nat × Option VB)}

theorem Live.put (h : Live E m Imm g H a w) (k : Step m Imm H w m' Imm' H' w' key) {v : Value} (hv : V m' s v) (hg : Away key g) {dst : Option Nat} (hd : ∀ d, dst = some d → d < E.wide) (hlow : E.low ≤ key) :
    Live E m' Imm' (setG g dst s) H' (a.put dst v) w' := by
  have moved : ∀ d, V m' (g d) (a.tmps.getD d undef) := fun d => (h.slots d).moved fun b hb => k.same b (hg d b hb)
  refine ⟨h.since.step k, ?_, ?_, ?_, ?_⟩
  · cases dst with
    | none => exact moved
    | some e =>
      intro d
      simp only [setG, Act.put]
      have he : e < a.tmps.size := by rw [h.size]; exact hd e rfl
      by_cases hde : d = e
      · subst hde
        simpa [he] using hv
      · have := moved d
        simp only [hde, if_false]
        rw [Array.getD_eq_getD_getElem?, Array.getElem?_setIfInBounds_ne (by omega)]
        simpa [Array.getD_eq_getD_getElem?] using this
  · cases dst <;> simp [Act.put, h.size]
  · cases dst <;> simp [Act.put, h.defers]
  · intro b hb
    rw [k.same b (by
      cases e : inRange key b with
      | false => rfl
      | true => rw [inRange_iff] at e; omega)]
    exact h.same b hb

theorem arg_used {g : Nat → SV} (x : Operand) {b : Nat} (hb : b ∈ (arg g x).ids) : Used g H b := by
  cases x with
  | tmp t => exact .inr ⟨t, hb⟩
  | const v => rw [show (arg g (.const v)).ids = [] from ofVal_ids v] at hb; simp at hb
  | global i => simp [arg, SV.ids] at hb
  | func f => simp [arg, SV.ids, idsL] at hb
theorem args_used {g : Nat → SV} : ∀ (l : List Operand) {b : Nat}, b ∈ idsL (l.map (arg g)) → Used g H b
  | [], b, hb => by simp [idsL] at hb
  | x :: l, b, hb => by
    simp only [List.map_cons, idsL, List.mem_append] at hb
    rcases hb with hb | hb
    · exact arg_used x hb
    · exact args_used l hb
theorem behind_used {l : List Nat} {b : Nat} (hb : b ∈ behind H l) : UsedIn H b := by
  unfold behind at hb
  obtain ⟨c, hc, hb⟩ := List.mem_flatMap.1 hb
  split at hb
  · rename_i cs he
    exact .inr ⟨c, cs, he, hb⟩
  · simp at hb
theorem reachN_used : ∀ {n : Nat} {l : List Nat}, (∀ b ∈ l, Used g H b) → ∀ b ∈ reachN n H l, Used g H b
  | 0, _, h, b, hb => h b hb
  | n + 1, l, h, b, hb => by
    simp only [reachN, List.mem_append] at hb
    rcases hb with hb | hb
    · exact h b hb
    · exact reachN_used (fun b hb => .inl (behind_used hb)) b hb
theorem reach_used {o : Oper} {b : Nat} (hb : b ∈ reach g H o) : Used g H b := reachN_used (fun _ hb => args_used _ hb) b hb
theorem okIds_ok {rs l : List Nat} (h : okIds rs key l = true) : ∀ b ∈ l, inRange key b = true ∨ b ∈ rs := by
  intro b hb
  have := (List.all_eq_true.1 h) b hb
  unfold okId at this
  rw [Bool.or_eq_true, memN_iff] at this
  exact this
theorem tidy_ok {rs : List Nat} (h : tidy rs key s u = true) : (∀ b ∈ s.ids, inRange key b = true ∨ b ∈ rs) ∧ ∀ b ∈ idsU u, inRange key b = true ∨ b ∈ rs := by
  unfold tidy at h
  rw [Bool.and_eq_true] at h
  exact ⟨okIds_ok h.1, okIds_ok h.2⟩
theorem idsU_key : ∀ {u : List (Nat × Option VB)} {p : Nat × Option VB}, p ∈ u → p.1 ∈ idsU u
  | (b, some (.cells cs)) :: l, p, h => by
    rcases List.mem_cons.1 h with rfl | h
    · simp [idsU]
    · simp [idsU, idsU_key h]
  | (b, some (.row _ _ _)) :: l, p, h => by
    rcases List.mem_cons.1 h with rfl | h
    · simp [idsU]
    · simp [idsU, idsU_key h]
  | (b, none) :: l, p, h => by
    rcases List.mem_cons.1 h with rfl | h
    · simp [idsU]
    · simp [idsU, idsU_key h]
theorem idsU_cells : ∀ {u : List (Nat × Option VB)} {b : Nat} {cs : List SV}, (b, some (.cells cs)) ∈ u → ∀ x ∈ idsL cs, x ∈ idsU u
  | (b, some (.cells cs)) :: l, c, ds, h, x, hx => by
    rcases List.mem_cons.1 h with h | h
    · cases h; simp [idsU, hx]
    · simp [idsU, idsU_cells h x hx]
  | (b, some (.row _ _ _)) :: l, c, ds, h, x, hx => by
    rcases List.mem_cons.1 h with h | h
    · cases h
    · simp [idsU, idsU_cells h x hx]
  | (b, none) :: l, c, ds, h, x, hx => by
    rcases List.mem_cons.1 h with h | h
    · cases h
    · simp [idsU, idsU_cells h x hx]

theorem used_upd {dst : Option Nat} {rs : List Nat} (hs : ∀ b ∈ s.ids, inRange key b = true ∨ b ∈ rs) (hu : ∀ b ∈ idsU u, inRange key b = true ∨ b ∈ rs) (hr : ∀ b ∈ rs, Used g H b) {b : Nat} (h : Used (setG g dst s) (upd u H) b) :
    Used g H b ∨ inRange key b = true := by
  rcases h with (h | ⟨b', cs, h, hb⟩) | ⟨d, h⟩
  · cases e : upd u H b with
    | none => exact absurd e h
    | some vb =>
      rcases upd_cases e with hp | ⟨_, hp⟩
      · rcases hu b (idsU_key hp) with h | h
        · exact .inr h
        · exact .inl (hr b h)
      · exact .inl (.inl (.inl (by rw [hp]; simp)))
  · rcases upd_cases h with hp | ⟨_, hp⟩
    · rcases hu b (idsU_cells hp b hb) with h | h
      · exact .inr h
      · exact .inl (hr b h)
    · exact .inl (.inl (.inr ⟨b', cs, hp, hb⟩))
  · have old : b ∈ s.ids → Used g H b ∨ inRange key b = true := fun h => by
      rcases hs b h with h | h
      · exact .inr h
      · exact .inl (hr b h)
    cases dst with
    | none => exact .inl (.inr ⟨d, h⟩)
    | some e =>
      simp only [setG] at h
      split at h
      · exact old h
      · exact .inl (.inr ⟨d, h⟩)

theorem Acts1.used {o : Oper} {ids : List Nat} (h : Acts1 T Γ o key g H s u ids) {dst : Option Nat} {b : Nat} (hb : Used (setG g dst s) (upd u H) b) : Used g H b ∨ inRange key b = true := by
  cases h with
  | pick c x y t ho hc =>
    refine used_upd (rs := (arg g x).ids ++ (arg g y).ids) ?_ (fun b hb => by simp [idsU] at hb) ?_ hb
    · intro b hb
      cases t <;> simp at hb <;> simp [hb]
    · intro b hb
      rcases List.mem_append.1 hb with hb | hb <;> exact arg_used _ hb
  | ev s u h ht =>
    obtain ⟨h1, h2⟩ := tidy_ok ht
    exact used_upd h1 h2 (fun b hb => reach_used hb) hb
theorem Acts.used {ops : List Oper} {o : Oper} {ids : List Nat} (h : Acts T Γ ops o key g H s u ids) {b : Nat} (hb : Used (setG g o.dst s) (upd u H) b) : Used g H b ∨ inRange key b = true := by
  cases h with
  | plain s u ids _ h => exact h.used hb
  | yes s u ids j d want _ _ _ h => exact h.used hb
  | off j d want a _ _ _ => exact used_upd (rs := []) (fun b hb => by simp [SV.ids] at hb) (fun b hb => by simp [idsU] at hb) (fun b hb => by simp at hb) hb
  | no j d want t _ _ _ _ => exact used_upd (rs := []) (fun b hb => by simp [SV.ids] at hb) (fun b hb => by simp [idsU] at hb) (fun b hb => by simp at hb) hb

theorem dstOf_bind (ops : Array Oper) (j : Nat) : (ops[j]?).bind (·.dst) = dstOf ops.toList j := by
  unfold dstOf
  rw [Array.getElem?_toList]
  cases ops[j]? <;> rfl

theorem bool_slot {m : Nat → Place} {x : SV} {v : Value} {b : Bool} (h : V m x v) (hx : x = .val (.bool b)) : v = .bool b := by
  subst hx; cases h; rfl

theorem act1_wp (hT : TOk P T) (hΓ : GOks P Γ) {Q : Exit → Act → World → Prop} {o : Oper} {ids : List Nat} {K : Act → World → Prop} (hact : Acts1 T Γ o key g H s u ids) (hl : Live E m Imm g H a w)
    (hu : ∀ b, Used g H b → inRange key b = false) (hd : ∀ d, o.dst = some d → d < E.wide) (hlow : E.low ≤ key) (hk : ∀ a' w' m' Imm', Live E m' Imm' (setG g o.dst s) (upd u H) a' w' → K a' w') : o.wp P a w K Q := by
  have away : Away key g := fun d b hb => hu b (.inr ⟨d, hb⟩)
  have clean : Clean key H := fun b hb hU => by rw [hu b (.inl hU)] at hb; cases hb
  cases hact with
  | pick c x y t ho hc =>
    have h1 : a.eval c = .bool t := bool_slot (arg_V hl.slots c) hc
    have h2 : V m (bif t then arg g x else arg g y) (if t then a.eval x else a.eval y) := by cases t <;> exact arg_V hl.slots _
    unfold Oper.wp
    have h3 : (execOp a.eval o).run P w = .ok (.value (if t then a.eval x else a.eval y)) w := by
      simp only [execOp, ho, h1]
      cases t <;> simp [asBool]
    rw [h3]
    exact hk _ _ m Imm (hl.put (.refl hl.since.rel key) h2 away hd hlow)
  | ev s u h ht =>
    refine op_wp (H := hidden (reach g H o) H) hT hΓ (hl.since.rel.hidden _) ?_ hl.slots away h ?_
    · rintro b hb (h | ⟨b', cs, h, hx⟩)
      · refine clean b hb (.inl fun e => h ?_)
        unfold hidden
        rw [e]
        cases memN b (reach g H o) <;> rfl
      · exact clean b hb (.inr ⟨b', cs, (hidden_some h).2, hx⟩)
    · intro v m' Imm' w' hv hs
      refine hk _ _ m' Imm' (hl.put (hs.frame hl.since.rel ?_ clean) hv away hd hlow)
      intro p hp
      rcases (tidy_ok ht).2 _ (idsU_key hp) with h | h
      · exact .inr h
      · exact .inl h

theorem act_wp (hT : TOk P T) (hΓ : GOks P Γ) {Q : Exit → Act → World → Prop} {ops : Array Oper} {i : Nat} {o : Oper} {ids : List Nat} {K : Act → World → Prop} (ho : ops[i]? = some o) (hact : Acts T Γ ops.toList o key g H s u ids) (hl : Live E m Imm g H a w)
    (hu : ∀ b, Used g H b → inRange key b = false) (hd : ∀ d, o.dst = some d → d < E.wide) (hlow : E.low ≤ key) (hk : ∀ a' w' m' Imm', Live E m' Imm' (setG g o.dst s) (upd u H) a' w' → K a' w') : wpOp P ops Q i K a w := by
  unfold wpOp
  simp only [ho]
  have away : Away key g := fun d b hb => hu b (.inr ⟨d, hb⟩)
  have yield : ∀ {j d : Nat} {t : Bool}, dstOf ops.toList j = some d → g d = .val (.bool t) → yielded ops a.tmps j = some t := by
    intro j d t hj hg
    unfold yielded
    rw [dstOf_bind, hj]
    have h1 := bool_slot (hl.slots d) hg
    rw [Array.getD_eq_getD_getElem?] at h1
    simp only [Option.bind_some]
    cases e : a.tmps[d]? with
    | none => rw [e] at h1; simp [undef] at h1
    | some v => rw [e] at h1; simp at h1; subst h1; rfl
  cases hact with
  | off j d want b hg hj hv =>
    have h1 := hl.slots d
    rw [hv] at h1
    have hy : yielded ops a.tmps j = none := by
      unfold yielded
      rw [dstOf_bind, hj]
      rw [Array.getD_eq_getD_getElem?] at h1
      simp only [Option.bind_some]
      cases e : a.tmps[d]? with
      | none => rfl
      | some v => rw [e] at h1; simp at h1; cases h1; rfl
    have hw : ¬ Region.wanted o (yielded ops a.tmps) = true := by simp [Region.wanted, hg, hy]
    rw [if_neg hw]
    exact hk _ _ m Imm (hl.put (.refl hl.since.rel key) (.val _) away hd hlow)
  | plain s u ids hg h =>
    have hw : Region.wanted o (yielded ops a.tmps) = true := by simp [Region.wanted, hg]
    rw [if_pos hw]
    exact .inl (act1_wp hT hΓ h hl hu hd hlow hk)
  | yes s u ids j d want hg hj hv h =>
    have hw : Region.wanted o (yielded ops a.tmps) = true := by simp [Region.wanted, hg, yield hj hv]
    rw [if_pos hw]
    exact .inl (act1_wp hT hΓ h hl hu hd hlow hk)
  | no j d want t hg hj hv ht =>
    have hw : ¬ Region.wanted o (yielded ops a.tmps) = true := by simp [Region.wanted, hg, yield hj hv, ht]
    rw [if_neg hw]
    exact hk _ _ m Imm (hl.put (.refl hl.since.rel key) (.val _) away hd hlow)

/-! Some of the operations are done: S. -/
structure Planned (T : TT) (Γ : List (Nat × GC)) (ops : List Oper) (p : Plan) (key0 : Nat) : Prop where
  n : p.n = ops.length
  D : ∀ i, p.D i = dstOf ops i
  act : ∀ j o, ops[j]? = some o → Acts T Γ ops o (key0 + j * stride) (p.G (upto j)) (p.H (upto j)) (p.r j).s (p.r j).u (p.r j).ids
def Fresh (p : Plan) (key0 : Nat) (S : Nat → Bool) : Prop := ∀ b, Used (p.G S) (p.H S) b → b < key0 ∨ ∃ k, k < p.n ∧ S k = true ∧ inRange (key0 + k * stride) b = true
theorem Fresh.out {p : Plan} {key0 : Nat} {S : Nat → Bool} (h : Fresh p key0 S) {i : Nat} (hi : S i = false) : ∀ b, Used (p.G S) (p.H S) b → inRange (key0 + i * stride) b = false := by
  intro b hb
  cases e : inRange (key0 + i * stride) b with
  | false => rfl
  | true =>
    rw [inRange_iff] at e
    rcases h b hb with h | ⟨k, hk, hS, h⟩
    · omega
    · rw [inRange_iff] at h
      have : k = i := by
        unfold stride at e h
        omega
      subst this
      rw [hi] at hS; cases hS
theorem Fresh.next {ops : List Oper} {p : Plan} {key0 : Nat} {S S' : Nat → Bool} {i : Nat} {o : Oper} (h : Fresh p key0 S) (hi : i < p.n) (hS : S' i = true) (hne : ∀ k, k < p.n → k ≠ i → S' k = S k) (hi0 : S i = false)
    (hact : Acts T Γ ops o (key0 + i * stride) (p.G S) (p.H S) (p.r i).s (p.r i).u (p.r i).ids) (hG : p.G S' = setG (p.G S) o.dst (p.r i).s) (hH : p.H S' = upd (p.r i).u (p.H S)) : Fresh p key0 S' := by
  intro b hb
  rw [hG, hH] at hb
  rcases hact.used hb with hb | hb
  · rcases h b hb with h | ⟨k, hk, h1, h2⟩
    · exact .inl h
    · refine .inr ⟨k, hk, ?_, h2⟩
      rw [hne k hk (by rintro rfl; rw [hi0] at h1; cases h1)]
      exact h1
  · exact .inr ⟨i, hi, hS, hb⟩

theorem text_wp (hT : TOk P T) (hΓ : GOks P Γ) {Q : Exit → Act → World → Prop} {ops : Array Oper} {p : Plan} {key0 : Nat} (hp : Planned T Γ ops.toList p key0) (hlow : E.low ≤ key0) (hd : ∀ o ∈ ops, ∀ d, o.dst = some d → d < E.wide)
    (hQ : ∀ a w m Imm, Live E m Imm (p.G (upto p.n)) (p.H (upto p.n)) a w → Q .normal a w) : ∀ (l i : Nat), i + l = p.n → ∀ a w m Imm, Live E m Imm (p.G (upto i)) (p.H (upto i)) a w → Fresh p key0 (upto i) →
      wpOps P ops Q (List.range' i l) a w
  | 0, i, hi, a, w, m, Imm, hl, _ => by
    have : i = p.n := by omega
    subst this
    exact hQ a w m Imm hl
  | l + 1, i, hi, a, w, m, Imm, hl, hf => by
    rw [List.range'_succ, wpOps_cons]
    have hlt : i < ops.size := by have := hp.n; simp at this; omega
    have ho : ops[i]? = some ops[i] := Array.getElem?_eq_getElem hlt
    have ho' : ops.toList[i]? = some ops[i] := by rw [Array.getElem?_toList]; exact ho
    have hact := hp.act i ops[i] ho'
    have hD : p.D i = (ops[i]).dst := by rw [hp.D, dstOf_at ho']
    have hin : i < p.n := by omega
    refine act_wp hT hΓ ho hact hl (hf.out (by simp [upto])) (hd _ (Array.getElem_mem _)) (by omega) ?_
    intro a' w' m' Imm' hl'
    have hG := p.G_next hin
    rw [hD] at hG
    have hH := p.H_next hin
    rw [← hG, ← hH] at hl'
    exact text_wp hT hΓ hp hlow hd hQ l (i + 1) (by omega) a' w' m' Imm' hl' (hf.next hin (by simp [upto]) (fun k _ h => by simp only [upto]; congr 1; simp only [eq_iff_iff]; omega) (by simp [upto]) hact hG hH)

/-! Each order. -/
inductive Anc (ops : List Oper) : Nat → Nat → Prop
  | edge (j : Nat) (o : Oper) (e : Edge) (ho : ops[j]? = some o) (he : e ∈ o.after) (hb : Region.binds .any e = true) : Anc ops e.on j
  | far (k j : Nat) (o : Oper) (e : Edge) (ho : ops[j]? = some o) (he : e ∈ o.after) (hb : Region.binds .any e = true) (h : Anc ops k e.on) : Anc ops k j
structure Free (ops : List Oper) (p : Plan) (j k : Nat) (oj ok : Oper) : Prop where
  dj : ∀ d, oj.dst = some d → d ∉ insOf ops ok
  dk : ∀ d, ok.dst = some d → d ∉ insOf ops oj
  dd : ∀ d, oj.dst = some d → ok.dst ≠ some d
  kj : ∀ b, (lkN (p.r j).u b).isSome = true → b ∉ needOf ok (p.r k).ids
  kk : ∀ b, (lkN (p.r k).u b).isSome = true → b ∉ needOf oj (p.r j).ids
  kd : ∀ b, (lkN (p.r j).u b).isSome = true → (lkN (p.r k).u b).isSome = false
structure DrawOk (ops : List Oper) (p : Plan) : Prop where
  edge : ∀ j o e, ops[j]? = some o → e ∈ o.after → Region.binds .any e = true → e.on < j
  free : ∀ j k oj ok, k < j → ops[j]? = some oj → ops[k]? = some ok → Anc ops k j ∨ Free ops p j k oj ok

def Closed (ops : List Oper) (S : Nat → Bool) : Prop := ∀ j o e, ops[j]? = some o → S j = true → e ∈ o.after → Region.binds .any e = true → S e.on = true
theorem Anc.closed {ops : List Oper} {S : Nat → Bool} (hS : Closed ops S) {k j : Nat} (h : Anc ops k j) (hj : ∀ o e, ops[j]? = some o → e ∈ o.after → Region.binds .any e = true → S e.on = true) : S k = true := by
  induction h with
  | edge j o e ho he hb => exact hj o e ho he hb
  | far k j o e ho he hb _ ih => exact ih fun o' e' ho' he' hb' => hS _ o' e' ho' (hj o e ho he hb) he' hb'

def cnt (W : Nat → Bool) : Nat → Nat
  | 0 => 0
  | n + 1 => cnt W n + (if W n then 0 else 1)
theorem cnt_lt {W W' : Nat → Bool} {i : Nat} : ∀ n, i < n → W i = false → W' i = true → (∀ k, k ≠ i → W' k = W k) → cnt W' n < cnt W n
  | 0, h, _, _, _ => absurd h (Nat.not_lt_zero _)
  | n + 1, h, h1, h2, h3 => by
    have le : ∀ n, cnt W' n ≤ cnt W n := by
      intro n
      induction n with
      | zero => exact Nat.le_refl _
      | succ n ih =>
        simp only [cnt]
        by_cases e : n = i
        · subst e; simp [h1, h2]; omega
        · rw [h3 n e]; omega
    simp only [cnt]
    by_cases e : n = i
    · subst e
      have := le n
      simp [h1, h2]; omega
    · have := cnt_lt n (by omega) h1 h2 h3
      rw [h3 n e]; omega
theorem cnt_zero {W : Nat → Bool} : ∀ n, cnt W n = 0 → ∀ k, k < n → W k = true
  | 0, _, k, hk => absurd hk (Nat.not_lt_zero _)
  | n + 1, h, k, hk => by
    simp only [cnt] at h
    by_cases e : k = n
    · subst e
      cases hW : W k with
      | true => rfl
      | false => rw [hW] at h; simp at h
    · exact cnt_zero n (by omega) k (by omega)

def done (listed : Array Bool) (k : Nat) : Bool := listed.getD k false
theorem done_put {listed : Array Bool} {i k : Nat} (hi : i < listed.size) : done (listed.setIfInBounds i true) k = if k = i then true else done listed k := by
  unfold done
  by_cases e : k = i
  · subst e; simp [hi]
  · simp only [e, if_false]
    rw [Array.getD_eq_getD_getElem?, Array.getElem?_setIfInBounds_ne (by omega), Array.getD_eq_getD_getElem?]

theorem draw_wp (hT : TOk P T) (hΓ : GOks P Γ) {Q : Exit → Act → World → Prop} {ops : Array Oper} {p : Plan} {key0 : Nat} (hp : Planned T Γ ops.toList p key0) (hlow : E.low ≤ key0) (hok : DrawOk ops.toList p) (hd : ∀ o ∈ ops, ∀ d, o.dst = some d → d < E.wide)
    (hQ : ∀ a w m Imm, Live E m Imm (p.G (upto p.n)) (p.H (upto p.n)) a w → Q .normal a w) : ∀ (fuel : Nat) (listed : Array Bool), listed.size = p.n → cnt (done listed) p.n ≤ fuel → Closed ops.toList (done listed) →
      ∀ a w m Imm, Live E m Imm (p.G (done listed)) (p.H (done listed)) a w → Fresh p key0 (done listed) → wpAny P .any ops Q fuel listed a w := by
  have hn : p.n = ops.size := by simpa using hp.n
  have getL : ∀ {i : Nat} {o : Oper}, ops[i]? = some o → ops.toList[i]? = some o := fun h => by rw [Array.getElem?_toList]; exact h
  -- nothing is left
  have finish : ∀ (listed : Array Bool) a w m Imm, (∀ k, k < p.n → done listed k = true) → Live E m Imm (p.G (done listed)) (p.H (done listed)) a w → Q .normal a w := by
    intro listed a w m Imm hall hl
    refine hQ a w m Imm ?_
    rw [show p.G (upto p.n) = p.G (done listed) from funext fun d => Plan.G_congr fun k hk _ => by simp [upto, hk, hall k hk],
      show p.H (upto p.n) = p.H (done listed) from funext fun d => Plan.H_congr fun k hk _ => by simp [upto, hk, hall k hk]]
    exact hl
  -- while something is left, something is ready
  have some_ready : ∀ (listed : Array Bool), listed.size = p.n → Region.ready .any ops listed = [] → ∀ k, k < p.n → done listed k = true := by
    intro listed hsz hr k
    induction k using Nat.strongRecOn with
    | ind k ih =>
    intro hk
    cases e : done listed k with
    | true => rfl
    | false =>
      exfalso
      have hlt : k < ops.size := by omega
      have hmem : k ∈ Region.ready .any ops listed := by
        rw [mem_ready]
        refine ⟨?_, ops[k], Array.getElem?_eq_getElem hlt, ?_⟩
        · unfold done at e
          rw [Array.getD_eq_getD_getElem?, Array.getElem?_eq_getElem (by omega)] at e ⊢
          simpa using e
        · intro ed he hb
          have hlt2 := hok.edge k _ ed (getL (Array.getElem?_eq_getElem hlt)) he hb
          exact ih _ hlt2 (by omega)
      rw [hr] at hmem
      cases hmem
  intro fuel
  induction fuel with
  | zero =>
    intro listed hsz hc _ a w m Imm hl _
    have hall := cnt_zero (W := done listed) p.n (by omega)
    refine ⟨?_, finish listed a w m Imm hall hl⟩
    rw [List.eq_nil_iff_forall_not_mem]
    intro k hk
    rw [mem_ready] at hk
    obtain ⟨h1, o, h2, _⟩ := hk
    have hlt := (Array.getElem?_eq_some_iff.1 h2).1
    have h3 := hall k (by omega)
    unfold done at h3
    rw [Array.getD_eq_getD_getElem?, Array.getElem?_eq_getElem (by omega)] at h1 h3
    simp at h1 h3
    rw [h1] at h3; cases h3
  | succ fuel ih =>
    intro listed hsz hc hcl a w m Imm hl hf
    refine ⟨fun hr => finish listed a w m Imm (some_ready listed hsz hr) hl, fun i hi => ?_⟩
    rw [mem_ready] at hi
    obtain ⟨h1, o, ho, hedge⟩ := hi
    have hlt : i < ops.size := (Array.getElem?_eq_some_iff.1 ho).1
    have hin : i < p.n := by omega
    have hi0 : done listed i = false := by
      unfold done
      rw [Array.getD_eq_getD_getElem?, Array.getElem?_eq_getElem (by omega)] at h1 ⊢
      simpa using h1
    have hoL := getL ho
    have hD : p.D i = o.dst := by rw [hp.D, dstOf_at hoL]
    have opAt : ∀ k, k < p.n → ∃ ok, ops.toList[k]? = some ok := fun k hk => ⟨ops[k], getL (Array.getElem?_eq_getElem (by omega))⟩
    -- what is done and comes after, or is not done and comes before, leaves it alone
    have after : ∀ k ok, i < k → ops.toList[k]? = some ok → done listed k = true → Free ops.toList p k i ok o := by
      intro k ok hk hok' hS
      rcases hok.free k i ok o hk hok' hoL with h | h
      · have := h.closed hcl (fun o' e ho' he hb => hcl k o' e ho' hS he hb)
        rw [hi0] at this; cases this
      · exact h
    have before : ∀ k ok, k < i → ops.toList[k]? = some ok → done listed k = false → Free ops.toList p i k o ok := by
      intro k ok hk hok' hS
      rcases hok.free i k o ok hk hoL hok' with h | h
      · have := h.closed hcl (fun o' e ho' he hb => by
          rw [hoL] at ho'; obtain rfl := Option.some.inj ho'
          exact hedge e he hb)
        rw [hS] at this; cases this
      · exact h
    have hact : Acts T Γ ops.toList o (key0 + i * stride) (p.G (done listed)) (p.H (done listed)) (p.r i).s (p.r i).u (p.r i).ids := by
      refine (hp.act i o hoL).frame ?_ ?_
      · intro d hd'
        refine Plan.G_congr fun k hk hdk => ?_
        obtain ⟨ok, hok'⟩ := opAt k hk
        rw [hp.D, dstOf_at hok'] at hdk
        simp only [upto]
        by_cases hki : k < i
        · simp only [hki, decide_true]
          cases e : done listed k with
          | true => rfl
          | false => exact absurd hd' ((before k ok hki hok' e).dk d hdk)
        · simp only [hki, decide_false]
          cases e : done listed k with
          | false => rfl
          | true =>
            have hne : k ≠ i := by rintro rfl; rw [hi0] at e; cases e
            exact absurd hd' ((after k ok (by omega) hok' e).dj d hdk)
      · intro b hb
        refine Plan.H_congr fun k hk hdk => ?_
        obtain ⟨ok, hok'⟩ := opAt k hk
        simp only [upto]
        by_cases hki : k < i
        · simp only [hki, decide_true]
          cases e : done listed k with
          | true => rfl
          | false => exact absurd hb ((before k ok hki hok' e).kk b hdk)
        · simp only [hki, decide_false]
          cases e : done listed k with
          | false => rfl
          | true =>
            have hne : k ≠ i := by rintro rfl; rw [hi0] at e; cases e
            exact absurd hb ((after k ok (by omega) hok' e).kj b hdk)
    have hput : ∀ k, done (listed.setIfInBounds i true) k = if k = i then true else done listed k := fun k => done_put (by omega)
    have hne : ∀ k, k < p.n → k ≠ i → done (listed.setIfInBounds i true) k = done listed k := fun k _ h => by rw [hput, if_neg h]
    have hS : done (listed.setIfInBounds i true) i = true := by rw [hput, if_pos rfl]
    have hG : p.G (done (listed.setIfInBounds i true)) = setG (p.G (done listed)) o.dst (p.r i).s := by
      rw [← hD]
      refine Plan.G_put hin hS hne ?_
      intro k d h2 h3 h4 h5
      obtain ⟨ok, hok'⟩ := opAt k h3
      rw [hp.D, dstOf_at hok']
      intro h6
      rw [hD] at h5
      exact (after k ok h2 hok' h4).dd d h6 h5
    have hH : p.H (done (listed.setIfInBounds i true)) = upd (p.r i).u (p.H (done listed)) := by
      refine Plan.H_put hin hS hne ?_
      intro k b h2 h3 h4 h5
      obtain ⟨ok, hok'⟩ := opAt k h3
      cases e : (lkN (p.r k).u b).isSome with
      | false => rfl
      | true => rw [(after k ok h2 hok' h4).kd b e] at h5; cases h5
    refine act_wp hT hΓ ho hact hl (hf.out hi0) (hd o (Array.mem_of_getElem? ho)) (by omega) ?_
    intro a' w' m' Imm' hl'
    rw [← hG, ← hH] at hl'
    refine ih _ (by simpa using hsz) ?_ ?_ a' w' m' Imm' hl' (hf.next hin hS hne hi0 hact hG hH)
    · have := cnt_lt (W := done listed) (W' := done (listed.setIfInBounds i true)) p.n hin hi0 hS (fun k h => by rw [hput, if_neg h])
      omega
    · intro j oj e hj hjS he hb
      rw [hput]
      split
      · rfl
      · by_cases hji : j = i
        · subst hji
          rw [hoL] at hj
          obtain rfl := Option.some.inj hj
          exact hedge e he hb
        · rw [hput, if_neg hji] at hjS
          exact hcl j oj e hj hjS he hb
end Go.Proofs.Ytncdakkigkmfjaa.Sx
