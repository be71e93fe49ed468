import Derived.Test.YtncdakkigkmfjaaSxJ
/-! A function that does what is told of it keeps the contract that is lifted out of it. -/
namespace Go.Proofs.Ytncdakkigkmfjaa.Sx
open Go
set_option linter.unusedVariables false
set_option linter.unusedSimpArgs false

variable {P : Program} {T : TT} {Γ : List (Nat × GC)}

theorem atN_ix : ∀ {l : List Nat} {b : Nat}, b ∈ l → atN l (ixN l b) = b ∧ ixN l b < l.length
  | a :: l, b, h => by
    simp only [ixN]
    rw [beqN]
    by_cases e : a = b
    · simp [e, atN]
    · rw [decide_eq_false e]
      simp only [cond_false, atN, List.length_cons]
      rcases List.mem_cons.1 h with h | h
      · exact absurd h.symm e
      · have := atN_ix h
        exact ⟨this.1, by omega⟩
theorem atN_mem : ∀ {l : List Nat} {i : Nat}, i < l.length → atN l i ∈ l
  | a :: l, 0, _ => by simp [atN]
  | a :: l, i + 1, h => by simp only [atN]; exact List.mem_cons_of_mem _ (atN_mem (by simpa using h))
theorem ix_atN : ∀ {l : List Nat} {i : Nat}, l.Nodup → i < l.length → ixN l (atN l i) = i
  | a :: l, 0, _, _ => by simp [atN, ixN]
  | a :: l, i + 1, hn, h => by
    rw [List.nodup_cons] at hn
    have hm := atN_mem (l := l) (i := i) (by simpa using h)
    simp only [atN, ixN]
    rw [beqN, decide_eq_false (by rintro rfl; exact hn.1 hm)]
    simp only [cond_false]
    rw [ix_atN hn.2 (by simpa using h)]

theorem blocksOf_lk {H : VH} {f : Nat → Nat} : ∀ {l : List Nat} {i j : Nat} {vb : VB}, lookH (somesV (blocksOf H f l i)) j = some vb → i ≤ j ∧ j < i + l.length ∧ ∃ v, H (atN l (j - i)) = some v ∧ vb = v.ren f
  | [], i, j, vb, h => by simp [blocksOf, somesV, lookH, lkN] at h
  | b :: l, i, j, vb, h => by
    simp only [blocksOf] at h
    have tail : lookH (somesV (blocksOf H f l (i + 1))) j = some vb → i ≤ j ∧ j < i + (b :: l).length ∧ ∃ v, H (atN (b :: l) (j - i)) = some v ∧ vb = v.ren f := by
      intro h
      obtain ⟨h1, h2, v, h3, h4⟩ := blocksOf_lk h
      refine ⟨by omega, by simp; omega, v, ?_, h4⟩
      rw [show j - i = (j - (i + 1)) + 1 by omega]
      exact h3
    split at h
    · rename_i v hv
      simp only [somesV, lookH, lkN] at h
      rw [beqN] at h
      by_cases e : i = j
      · subst e
        simp only [decide_true, cond_true, Option.some.injEq] at h
        exact ⟨Nat.le_refl _, by simp, v, by simpa [atN] using hv, h.symm⟩
      · rw [decide_eq_false e] at h
        exact tail h
    · exact tail h
theorem blocksOf_at {H : VH} {f : Nat → Nat} : ∀ {l : List Nat} {i j : Nat} {v : VB}, j < l.length → H (atN l j) = some v → lookH (somesV (blocksOf H f l i)) (i + j) = some (v.ren f)
  | b :: l, i, j, v, hj, h => by
    simp only [blocksOf]
    cases j with
    | zero =>
      simp only [atN] at h
      rw [h]
      simp [somesV, lookH, lkN]
    | succ j =>
      simp only [atN] at h
      have ih := blocksOf_at (f := f) (i := i + 1) (j := j) (by simpa using hj) h
      rw [show i + (j + 1) = i + 1 + j by omega]
      split
      · simp only [somesV, lookH, lkN]
        rw [beqN, decide_eq_false (by omega)]
        exact ih
      · exact ih
theorem somesV_length : ∀ l : List (Nat × VB), (somesV l).length = l.length
  | [] => rfl
  | (_, _) :: l => by simp [somesV, somesV_length l]

theorem renU_lk {g : Nat → Nat} : ∀ {u : List (Nat × Option VB)} {b : Nat}, (∃ j v, lkN u j = some v ∧ g j = b ∧ lkN (renU g u) b = some (v.map (VB.ren g))) ∨ (lkN (renU g u) b = none ∧ ∀ j v, lkN u j = some v → g j ≠ b)
  | [], b => .inr ⟨rfl, fun j v h => by cases h⟩
  | (j0, v0) :: u, b => by
    have e0 : lkN (renU g ((j0, v0) :: u)) b = if g j0 = b then some (v0.map (VB.ren g)) else lkN (renU g u) b := by
      cases v0 <;> (simp only [renU, lkN]; rw [beqN]; by_cases h : g j0 = b <;> simp [h])
    by_cases h : g j0 = b
    · exact .inl ⟨j0, v0, by simp [lkN], h, by rw [e0, if_pos h]⟩
    · rw [e0, if_neg h]
      rcases renU_lk (g := g) (u := u) (b := b) with ⟨j, v, h1, h2, h3⟩ | ⟨h1, h2⟩
      · refine .inl ⟨j, v, ?_, h2, h3⟩
        simp only [lkN]
        rw [beqN, decide_eq_false (by rintro rfl; exact h h2)]
        exact h1
      · refine .inr ⟨h1, fun j v hj => ?_⟩
        simp only [lkN] at hj
        rw [beqN] at hj
        by_cases e : j0 = j
        · subst e; exact h
        · rw [decide_eq_false e] at hj; exact h2 j v hj

theorem nilCs_keys : ∀ {ks : List (Option RK)} {cs l : List SV} {u : List (Nat × Option VB)} {n : Nat}, nilCs ks cs n = (l, u) → ∀ p ∈ u, p.1 ∈ idsL l
  | [], cs, l, u, n, h, p, hp => by
    simp only [nilCs, Prod.mk.injEq] at h
    obtain ⟨_, rfl⟩ := h
    simp at hp
  | k :: ks, [], l, u, n, h, p, hp => by
    have : nilCs (k :: ks) [] n = ([], []) := by cases k <;> rfl
    rw [this] at h
    simp only [Prod.mk.injEq] at h
    obtain ⟨_, rfl⟩ := h
    simp at hp
  | k :: ks, c :: cs, l, u, n, h, p, hp => by
    unfold nilCs at h
    split at h
    · rename_i e1 e2
      cases e1; cases e2
      cases h
      rcases List.mem_cons.1 hp with rfl | hp
      · simp [idsL, SV.ids]
      · simp only [idsL, List.mem_append]; exact .inr (nilCs_keys rfl p hp)
    · rename_i e1 e2
      cases e1; cases e2
      cases h
      simp only [idsL, List.mem_append]; exact .inr (nilCs_keys rfl p hp)
    · rename_i e1; cases e1
    · rename_i e1 _; cases e1

theorem renOk_ok {sig : List Nat} {key : Nat} {nu : List (Nat × Option VB)} {s : SV} {u : List (Nat × Option VB)} {c : SV → List (Nat × Option VB) → R} {s' : SV} {u' : List (Nat × Option VB)} (hc : ∀ s u, Holds (c s u) s' u' → s' = s ∧ u' = u) (h : Holds (renOk sig key nu s u c) s' u') :
    okNew sig s.ids = true ∧ okNew sig (idsU u) = true ∧ s' = s.ren (gN sig key) ∧ u' = renU (gN sig key) u ++ nu ∧ Holds (c s' u') s' u' := by
  unfold renOk at h
  cases e : (okNew sig s.ids && okNew sig (idsU u)) with
  | false => rw [e] at h; exact h.fail.elim
  | true =>
    rw [e] at h
    rw [Bool.and_eq_true] at e
    obtain ⟨h1, h2⟩ := hc _ _ h
    refine ⟨e.1, e.2, h1, h2, ?_⟩
    rw [h1, h2]
    rw [h1, h2] at h
    exact h
theorem renR_ok {sig : List Nat} {key : Nat} {nu : List (Nat × Option VB)} {s' : SV} {u' : List (Nat × Option VB)} : ∀ {r : R}, Holds (renR sig key nu r) s' u' → ∃ s u, Holds r s u ∧ okNew sig s.ids = true ∧ okNew sig (idsU u) = true ∧ s' = s.ren (gN sig key) ∧ u' = renU (gN sig key) u ++ nu
  | .ok s u, h => by
    obtain ⟨h1, h2, h3, h4, _⟩ := renOk_ok (c := .ok) (fun s u h => by obtain ⟨h1, h2⟩ := h.ok; exact ⟨h1.symm, h2.symm⟩) (show Holds (renOk sig key nu s u .ok) s' u' from h)
    exact ⟨s, u, .mk _ _, h1, h2, h3, h4⟩
  | .vc d s u, h => by
    obtain ⟨h1, h2, h3, h4, h5⟩ := renOk_ok (c := .vc d) (fun s u h => by obtain ⟨_, h1, h2⟩ := h.vc; exact ⟨h1.symm, h2.symm⟩) (show Holds (renOk sig key nu s u (.vc d)) s' u' from h)
    exact ⟨s, u, .mkVc _ _ _ h5.vc.1, h1, h2, h3, h4⟩
  | .br t a b, h => by
    rcases Holds.br (t := t) (a := renR sig key nu a) (b := renR sig key nu b) h with ⟨ht, h⟩ | ⟨ht, h⟩
    · obtain ⟨s, u, h1, h2⟩ := renR_ok h; exact ⟨s, u, .yes _ _ _ _ _ ht h1, h2⟩
    · obtain ⟨s, u, h1, h2⟩ := renR_ok h; exact ⟨s, u, .no _ _ _ _ _ ht h1, h2⟩
  | .fail w, h => (Holds.fail (why := w) h).elim

theorem number_lk : ∀ {l : List SV} {i d : Nat}, lkN (number i l) d = if i ≤ d then l[d - i]? else none
  | [], i, d => by simp [number, lkN]
  | s :: l, i, d => by
    simp only [number, lkN]
    rw [beqN]
    by_cases h : i = d
    · subst h; simp
    · simp only [h, decide_false, cond_false]
      rw [number_lk]
      by_cases h1 : i ≤ d
      · rw [if_pos (by omega), if_pos h1, show d - i = (d - (i + 1)) + 1 by omega]; simp
      · rw [if_neg (by omega), if_neg h1]

theorem somesV_lk : ∀ {l : List (Nat × VB)} {b : Nat}, lookH (somesV l) b = lkN l b
  | [], b => rfl
  | (c, v) :: l, b => by
    simp only [somesV, lookH, lkN]
    rw [beqN]
    by_cases e : c = b
    · simp [e]
    · rw [decide_eq_false e]; exact somesV_lk (l := l)
theorem fit_ok {m : Nat → Place} {Imm : Nat → Prop} {w : World} {hp : List (Nat × VB)} (hR : Rel m Imm (lookH (somesV hp)) w) : ∀ {l : List SV} {vs : List Value}, Vs m l vs → Fit hp l
  | [], vs, _ => trivial
  | x :: l, vs, h => by
    cases h with
    | cons _ v _ r hx hr =>
    refine ⟨?_, fit_ok hR hr⟩
    cases x with
    | slP b i n =>
      simp only [fitS]
      split
      · rename_i o k xs e
        rw [← somesV_lk] at e
        obtain ⟨_, p2, _⟩ := hR.hold b _ e
        cases hx with
        | slP _ _ _ c h1 h2 h3 => exact .inr (by omega)
        | slP0 _ _ a => exact .inl rfl
      · trivial
    | _ => trivial

theorem pf_ok (hT : TOk P T) (hΓ : GOks P Γ) (hm : P.follows .mixedOrders = true) {f : FuncId} {fn : Func} {c : Code} (hf : P.funcs[f]? = some fn) (hb : fn.body = some c) (hnm : (fn.name == "runtime.NumGoroutine") = false) (ks : List (Option RK)) (sp : Spec)
    (hd : (dsts c).all (fun d => Nat.blt d fn.ntmps) = true) (hn : Nat.ble ks.length fn.ntmps = true) (A : List SV → List (Nat × VB) → Anns)
    (hrun : ∀ args hp s u, Fit hp args → Holds (sp args hp) s u → fSt (start args hp) fun S => run T Γ (A args hp) c S (Ends T fn.results.toList (fitsEnd s u (lenN hp)))) : GOk P f (lift ks sp) := by
  refine ⟨⟨fn, hf, hnm, by rw [hb]; rfl⟩, ?_⟩
  intro args H key s u h m Imm w vals hR hc hids hv
  unfold lift at h
  rw [fL_eq] at h
  obtain ⟨args1, nu, hnil⟩ : ∃ args1 nu, nilCs ks args (key + 50) = (args1, nu) := ⟨_, _, rfl⟩
  rw [hnil] at h
  simp only [fL_eq, fNs_eq] at h
  generalize collect (upd nu H) 400 (idsL args1) [] = sig at h
  cases hchk : (okSig (upd nu H) args1 key sig && (Nat.beq (lenN args) (lenN ks) && Nat.ble (lenN ks) 13)) with
  | false => rw [hchk] at h; exact h.fail.elim
  | true =>
  rw [hchk] at h
  simp only [cond_true] at h
  obtain ⟨s0, u0, hsp, hnew1, hnew2, rfl, rfl⟩ := renR_ok h
  clear h
  simp only [Bool.and_eq_true, beqN, decide_eq_true_eq, Nat.ble_eq, lenN_eq, okSig] at hchk
  obtain ⟨⟨hcl, hnd, hsl, hfar⟩, hlen, h13⟩ := hchk
  have hnd := nodupN_ok hnd
  have hcl : ∀ b ∈ idsL args1 ++ sig.flatMap (idsAt (upd nu H)), b ∈ sig := fun b hb => by have := (List.all_eq_true.1 hcl) b hb; rwa [memN_iff] at this
  have hfar : ∀ b ∈ sig, ¬ (key ≤ b ∧ b < key + 50) := fun b hb hk => by
    have := (List.all_eq_true.1 hfar) b hb
    rw [show Nat.ble key b = true by rw [Nat.ble_eq]; exact hk.1, show Nat.blt b (key + 50) = true by rw [Nat.blt_eq]; exact hk.2] at this
    cases this
  have clArgs : ∀ b ∈ idsL args1, b ∈ sig := fun b hb => hcl b (List.mem_append_left _ hb)
  have clCells : ∀ b cs, b ∈ sig → upd nu H b = some (.cells cs) → ∀ x ∈ idsL cs, x ∈ sig := fun b cs hb e x hx => hcl x (List.mem_append_right _ (List.mem_flatMap.2 ⟨b, hb, by simp only [idsAt]; rw [e]; exact hx⟩))
  have inK : ∀ i, i < args.length → inRange key (key + 50 + i) = true := fun i hi => by rw [inRange_iff]; unfold stride; omega
  -- the caller's blocks that are handed on, with rows for nil slices
  have hRh : Rel m Imm (hidden sig H) w := hR.hidden sig
  obtain ⟨m1, hv1, hs1, hm1, hnuk, _⟩ := nilCs_ok (key := key) hnil hRh hv (fun i hi => ⟨inK i hi, by
      rintro (hU | ⟨b', cs, hU, hx⟩)
      · exact hc _ (inK i hi) (.inl (by
          cases e : hidden sig H (key + 50 + i) with
          | none => exact absurd e hU
          | some vb => rw [(hidden_some e).2]; simp))
      · exact hc _ (inK i hi) (.inr ⟨b', cs, (hidden_some hU).2, hx⟩), fun hx => by
      have := hids _ hx; rw [inK i hi] at this; cases this⟩)
  have hnuS : ∀ p ∈ nu, p.1 ∈ sig := fun p hp => clArgs _ (nilCs_keys hnil p hp)
  generalize hHn : upd nu (hidden sig H) = Hn at hs1
  have hHn1 : ∀ b, b ∈ sig → Hn b = upd nu H b := fun b hb => by
    rw [← hHn]; exact upd_same fun _ => hidden_in H hb
  have hHn2 : ∀ b vb, Hn b = some vb → b ∈ sig := fun b vb e => by
    rw [← hHn] at e
    rcases upd_cases e with hp | ⟨_, e⟩
    · exact hnuS _ hp
    · exact (hidden_some e).1
  have hHn3 : ∀ b vb, Hn b = some vb → ∀ x ∈ vb.ids, x ∈ sig := fun b vb e x hx => by
    have hb := hHn2 b vb e
    cases vb with
    | row => simp [VB.ids] at hx
    | cells cs => exact clCells b cs hb (by rw [← hHn1 b hb, e]) x hx
  have hR1 := hs1.rel
  have hblk : blocksOf (upd nu H) (ixN sig) sig 0 = blocksOf Hn (ixN sig) sig 0 := by
    have : ∀ (l : List Nat) (i : Nat), (∀ b ∈ l, b ∈ sig) → blocksOf (upd nu H) (ixN sig) l i = blocksOf Hn (ixN sig) l i := by
      intro l
      induction l with
      | nil => intro i _; rfl
      | cons b l ih =>
        intro i hl
        simp only [blocksOf]
        rw [hHn1 b (hl b (by simp)), ih (i + 1) (fun b hb => hl b (by simp [hb]))]
    exact this sig 0 fun _ h => h
  rw [hblk] at hsp
  generalize hhp : blocksOf Hn (ixN sig) sig 0 = hp at hsp
  generalize ha : renL (ixN sig) args1 = a1 at hsp
  -- the function's own numbers
  have srcOf : ∀ i vb, lookH (somesV hp) i = some vb → i < sig.length ∧ ∃ v, Hn (atN sig i) = some v ∧ vb = v.ren (ixN sig) := by
    intro i vb e
    rw [← hhp] at e
    obtain ⟨_, h2, v, h3, h4⟩ := blocksOf_lk e
    exact ⟨by omega, v, by simpa using h3, h4⟩
  have m0ix : ∀ b, b ∈ sig → m1 (atN sig (ixN sig b)) = m1 b := fun b hb => by rw [(atN_ix hb).1]
  have hR0 : Rel (fun i => m1 (atN sig i)) Imm (lookH (somesV hp)) w := by
    refine ⟨?_, ?_, ?_, hR1.imm⟩
    · intro i vb e
      obtain ⟨h1, v, h2, rfl⟩ := srcOf i vb e
      exact (hR1.hold _ v h2).map fun b hb => m0ix b (hHn3 _ v h2 b hb)
    · intro i j vb vb' e e' o o' hne
      obtain ⟨h1, v, h2, rfl⟩ := srcOf i vb e
      obtain ⟨h1', v', h2', rfl⟩ := srcOf j vb' e'
      refine hR1.dist _ _ v v' h2 h2' (Own.ren.1 o) (Own.ren.1 o') fun e => hne ?_
      rw [← ix_atN hnd h1, ← ix_atN hnd h1', e]
    · intro i vb e o
      obtain ⟨h1, v, h2, rfl⟩ := srcOf i vb e
      exact hR1.apart _ v h2 (Own.ren.1 o)
  have low0 : ∀ b, UsedIn (lookH (somesV hp)) b → b < 1024 := by
    rintro b (hb | ⟨b', cs, hb, hx⟩)
    · cases e : lookH (somesV hp) b with
      | none => exact absurd e hb
      | some vb => obtain ⟨h1, _⟩ := srcOf b vb e; omega
    · obtain ⟨h1, v, h2, h3⟩ := srcOf b' _ hb
      have hx' : b ∈ (v.ren (ixN sig)).ids := by rw [← h3]; exact hx
      cases v with
      | row => simp [VB.ren, VB.ids] at hx'
      | cells l =>
        simp only [VB.ren, VB.ids] at hx'
        rw [renL_ids] at hx'
        obtain ⟨y, hy, rfl⟩ := List.mem_map.1 hx'
        have := (atN_ix (hHn3 _ _ h2 y hy)).2
        omega
  have hlow1 : ∀ b ∈ idsL a1, b < 1024 := by
    intro b hb
    rw [← ha, renL_ids] at hb
    obtain ⟨y, hy, rfl⟩ := List.mem_map.1 hb
    have := (atN_ix (clArgs y hy)).2
    omega
  have hv0 : Vs (fun i => m1 (atN sig i)) a1 vals.toList := by
    rw [← ha]
    exact Vs.map args1 hv1 fun b hb => m0ix b (clArgs b hb)
  have hvl : a1.length = vals.size := by have := hv0.length; simpa using this
  have hsz : vals.size ≤ fn.ntmps := by
    rw [Nat.ble_eq] at hn
    have h1 := hv.length
    simp at h1
    omega
  let E : Env := ⟨Zone (fun i => m1 (atN sig i)) (lookH (somesV hp)) w, Imm, w, fn.ntmps, 1024, fun i => m1 (atN sig i)⟩
  have hI : Inv E (start a1 hp) (fun i => m1 (atN sig i)) Imm { tmps := vals ++ Array.replicate (fn.ntmps - vals.size) undef, defers := [] } w := by
    have hget : ∀ d, (start a1 hp).get d = match a1[d]? with | some v => v | none => .undef := by
      intro d
      show getT (number 0 a1) d = _
      unfold getT
      rw [number_lk, if_pos (Nat.zero_le d), Nat.sub_zero]
      cases a1[d]? <;> rfl
    refine ⟨⟨⟨hR0, fun _ h => h, fun _ h => .inl h, fun b vb h o => .inr ⟨b, vb, h, o, rfl⟩, fun _ _ _ => rfl, Calm.refl w, fun r h => .inl h⟩, ?_, ?_, rfl, fun _ _ => rfl⟩, ?_, ?_, ?_⟩
    · intro d
      rw [hget]
      cases e : a1[d]? with
      | none => exact .undef _
      | some sv =>
        obtain ⟨x, h1, h2⟩ := hv0.get e
        have hlt : d < vals.size := by
          have := (List.getElem?_eq_some_iff.1 h1).1
          simpa using this
        have h3 : (vals ++ Array.replicate (fn.ntmps - vals.size) undef).getD d undef = x := by
          rw [Array.getD_eq_getD_getElem?, Array.getElem?_append_left hlt]
          rw [Array.getElem?_toList] at h1
          rw [h1]; rfl
        simp only
        rw [h3]
        exact h2
    · show (vals ++ Array.replicate (fn.ntmps - vals.size) undef).size = fn.ntmps
      rw [Array.size_append, Array.size_replicate]; omega
    · rintro b (hb | ⟨d, hb⟩)
      · exact low0 b hb
      · show b < 1024
        rw [hget] at hb
        cases e : a1[d]? with
        | none => rw [e] at hb; simp [SV.ids] at hb
        | some sv =>
          rw [e] at hb
          exact hlow1 b (idsL_iff.2 ⟨sv, List.mem_of_getElem? e, hb⟩)
    · exact Nat.le_refl _
    · intro d b h
      exact absurd h (by simp [St.know, start, knowT, lkN])
  have hrun' := hrun a1 hp s0 u0 (fit_ok hR0 hv0) hsp
  rw [fSt_eq] at hrun'
  refine (calls_run (E := E) hT hΓ hm hf hb rfl hd hrun' hI).mono ?_
  rintro e w' ⟨S', m', Imm', a', ss, vs, rfl, hends, hI', ⟨r, hr⟩, hvs⟩
  unfold fitsEnd at hends
  obtain ⟨t1, r1, h1, _, hl1, he1, hb1⟩ := mtL_ok _ (t := []) (fun p hp => by simp at hp) hends
  obtain ⟨t, r2, ⟨h2, ⟨hr2⟩⟩, hx2, hl2, hu2⟩ := mtU_ok hl1 h1
  obtain ⟨hr1, hu2⟩ := hu2 hr2
  rw [lenN_eq, ← somesV_length] at h2
  have hvs0 : renL (tl t) (unpack ss s0) = ss := (he1 hr1).2 t hx2 hl2
  have hfit : Refit S'.look (lookH (somesV hp)) 1024 u0 (tl t) := end_refit rfl low0 ⟨r, hr⟩ hl2 (fun b vb hb => ⟨(hu2 b vb hb).1 t (.refl t) hl2, (hu2 b vb hb).2.1⟩) h2
  have hsince := hI'.live.since
  have hR2 := hfit.rel hsince.rel
  have hsame : ∀ i, i < 1024 → m' i = m1 (atN sig i) := hI'.live.same
  -- back in the caller's numbers
  let mC : Nat → Place := fun b => if key ≤ b ∧ b < key + 50 then m' (tl t (b - key + 2000)) else m1 b
  have mCout : ∀ b, ¬ (key ≤ b ∧ b < key + 50) → mC b = m1 b := fun b hb => by simp only [mC]; rw [if_neg hb]
  have mCg : ∀ j, (j < sig.length ∨ (2000 ≤ j ∧ j < 2050)) → mC (gN sig key j) = m' (tl t j) := by
    intro j hj
    unfold gN
    cases hlt : Nat.blt j (lenN sig) with
    | true =>
      rw [Nat.blt_eq, lenN_eq] at hlt
      simp only [cond_true]
      rw [mCout _ (hfar _ (atN_mem hlt)), hl2.tl (by omega), hsame j (by omega)]
    | false =>
      have : ¬ j < sig.length := by rw [← lenN_eq, ← Nat.blt_eq, hlt]; simp
      simp only [cond_false, mC]
      rw [if_pos (by omega), show key + (j - 2000) - key + 2000 = j by omega]
  have okn : ∀ {l : List Nat}, okNew sig l = true → ∀ j ∈ l, j < sig.length ∨ (2000 ≤ j ∧ j < 2050) := by
    intro l h j hj
    have := (List.all_eq_true.1 h) j hj
    simpa [lenN_eq, Nat.blt_eq, Nat.ble_eq] using this
  have hzone : ∀ r, Zone (fun i => m1 (atN sig i)) (lookH (somesV hp)) w r → Zone m1 Hn w r := by
    rintro r (hr | ⟨i, vb, e, o, rfl⟩)
    · exact .inl hr
    · obtain ⟨h1, v, h2, rfl⟩ := srcOf i vb e
      exact .inr ⟨atN sig i, v, h2, Own.ren.1 o, rfl⟩
  -- each block of the caller's is one of the function's
  have src : ∀ b vb, upd (renU (gN sig key) u0) Hn b = some vb → ∃ j vb0, upd u0 (lookH (somesV hp)) j = some vb0 ∧ gN sig key j = b ∧ mC b = m' (tl t j) ∧ (Own (mC b) vb → Own (m' (tl t j)) vb0) ∧ (Hold (fun b => m' (tl t b)) Imm' w' (m' (tl t j)) vb0 → Hold mC Imm' w' (mC b) vb) := by
    intro b vb h
    rcases renU_lk (g := gN sig key) (u := u0) (b := b) with ⟨j, v, q1, q2, q3⟩ | ⟨q1, q2⟩
    · unfold upd at h
      rw [q3] at h
      simp only at h
      cases v with
      | none => cases h
      | some vb0 =>
        obtain rfl := Option.some.inj h
        have hjU : j ∈ idsU u0 := idsU_key (p := (j, some vb0)) (lkN_some q1)
        have hmc := mCg j (okn hnew2 j hjU)
        rw [q2] at hmc
        refine ⟨j, vb0, by unfold upd; rw [q1], q2, hmc, fun o => by rw [hmc] at o; exact Own.ren.1 o, fun hh => ?_⟩
        rw [hmc]
        refine hh.map fun x hx => mCg x (okn hnew2 x ?_)
        cases vb0 with
        | row => simp [VB.ids] at hx
        | cells cs => exact idsU_cells (lkN_some q1) x hx
    · unfold upd at h
      rw [q1] at h
      simp only at h
      have hb := hHn2 b vb h
      obtain ⟨ix1, ix2⟩ := atN_ix hb
      have hun : lkN u0 (ixN sig b) = none := by
        cases e : lkN u0 (ixN sig b) with
        | none => rfl
        | some v =>
          refine absurd ?_ (q2 _ v e)
          unfold gN
          rw [show Nat.blt (ixN sig b) (lenN sig) = true by rw [Nat.blt_eq, lenN_eq]; exact ix2]
          exact ix1
      have hH0 : lookH (somesV hp) (ixN sig b) = some (vb.ren (ixN sig)) := by
        rw [← hhp]
        have := blocksOf_at (H := Hn) (f := ixN sig) (i := 0) ix2 (by rw [ix1]; exact h)
        simpa using this
      have hmc : mC b = m' (tl t (ixN sig b)) := by
        rw [mCout b (hfar b hb), hl2.tl (by omega), hsame _ (by omega), ix1]
      refine ⟨ixN sig b, vb.ren (ixN sig), by unfold upd; rw [hun]; exact hH0, ?_, hmc, fun o => by rw [hmc] at o; exact Own.ren.2 o, fun hh => ?_⟩
      · unfold gN
        rw [show Nat.blt (ixN sig b) (lenN sig) = true by rw [Nat.blt_eq, lenN_eq]; exact ix2]
        exact ix1
      · rw [hmc]
        refine hh.unmap fun x hx => ?_
        have hxs := hHn3 b vb h x hx
        obtain ⟨x1, x2⟩ := atN_ix hxs
        rw [mCout x (hfar x hxs), hl2.tl (by omega), hsame _ (by omega), x1]
  have hs2 : Step m1 Imm Hn w mC Imm' (upd (renU (gN sig key) u0) Hn) w' key := by
    refine ⟨⟨?_, ?_, ?_, hR2.imm⟩, ?_, hsince.mono, fun r hr => (hsince.zone r hr).imp id (hzone r), ?_, fun r q1 q2 => hsince.keep r q1 (fun hz => q2 (hzone r hz)), hsince.calm⟩
    · intro b vb h
      obtain ⟨j, vb0, q1, _, _, _, q5⟩ := src b vb h
      exact q5 (hR2.hold j vb0 q1)
    · intro b b' vb vb' h h' o o' hne
      obtain ⟨j, vb0, q1, q2, q3, q4, _⟩ := src b vb h
      obtain ⟨j', vb0', q1', q2', q3', q4', _⟩ := src b' vb' h'
      rw [q3, q3']
      exact hR2.dist j j' vb0 vb0' q1 q1' (q4 o) (q4' o') (by rintro rfl; exact hne (by rw [← q2, ← q2']))
    · intro b vb h o
      obtain ⟨j, vb0, q1, _, q3, q4, _⟩ := src b vb h
      rw [q3]
      exact hR2.apart j vb0 q1 (q4 o)
    · intro b hb
      refine mCout b fun hk => ?_
      rw [show inRange key b = true by rw [inRange_iff]; unfold stride; omega] at hb
      cases hb
    · intro b vb h o
      obtain ⟨j, vb0, q1, _, q3, q4, _⟩ := src b vb h
      rw [q3]
      exact hzone _ (hfit.own hsince.own q1 (q4 o))
  have hstep : Step m Imm H w mC Imm' (upd (renU (gN sig key) u0 ++ nu) H) w' key := by
    refine Step.frame (ids := sig) hR ?_ ?_ hc
    · rw [upd_append, hHn]
      exact hs1.trans hs2
    · intro p hp
      rcases List.mem_append.1 hp with hp | hp
      · have : ∃ j v, (j, v) ∈ u0 ∧ p.1 = gN sig key j := by
          have : ∀ (u : List (Nat × Option VB)), p ∈ renU (gN sig key) u → ∃ j v, (j, v) ∈ u ∧ p.1 = gN sig key j := by
            intro u
            induction u with
            | nil => intro h; simp [renU] at h
            | cons q l ih =>
              intro h
              obtain ⟨j, v⟩ := q
              cases v with
              | none =>
                rcases List.mem_cons.1 h with h | h
                · exact ⟨j, none, by simp, by rw [h]⟩
                · obtain ⟨j', v', h1, h2⟩ := ih h; exact ⟨j', v', by simp [h1], h2⟩
              | some v =>
                rcases List.mem_cons.1 h with h | h
                · exact ⟨j, some v, by simp, by rw [h]⟩
                · obtain ⟨j', v', h1, h2⟩ := ih h; exact ⟨j', v', by simp [h1], h2⟩
          exact this u0 hp
        obtain ⟨j, v, hj, e⟩ := this
        rw [e]
        unfold gN
        rcases okn hnew2 j (idsU_key (p := (j, v)) hj) with hlt | ⟨hge, hlt⟩
        · rw [show Nat.blt j (lenN sig) = true by rw [Nat.blt_eq, lenN_eq]; exact hlt]
          exact .inl (atN_mem hlt)
        · cases hb : Nat.blt j (lenN sig) with
          | true => rw [Nat.blt_eq, lenN_eq] at hb; exact .inl (atN_mem hb)
          | false =>
            right
            simp only [cond_false]
            rw [inRange_iff]
            unfold stride
            omega
      · exact .inl (hnuS p hp)
  refine ⟨mC, Imm', packV vs, rfl, ?_, hstep⟩
  have hvs' : Vs (fun b => m' (tl t b)) (unpack ss s0) vs.toList := by
    rw [← hvs0] at hvs
    exact Vs.unmap _ hvs fun _ _ => rfl
  have hlu : (unpack ss s0).length = ss.length := by rw [← renL_length (tl t) (unpack ss s0), hvs0]
  have hv0' := unpack_V hlu hvs' (by have := hvs.length; simpa using this)
  exact V.map s0 hv0' fun b hb => mCg b (okn hnew1 b hb)
end Go.Proofs.Ytncdakkigkmfjaa.Sx
