import Derived.Test.YtncdakkigkmfjaaSxG
/-! One operation: what follows from the evaluator's answer. -/
namespace Go.Proofs.Ytncdakkigkmfjaa.Sx
open Go
set_option linter.unusedVariables false
set_option linter.unusedSimpArgs false

variable {P : Program} {T : TT} {m : Nat → Place} {Imm : Nat → Prop} {H : VH} {w : World} {key : Nat} {s : SV} {u : List (Nat × Option VB)}

/-- A contract that the function keeps. -/
structure GOk (P : Program) (f : FuncId) (gc : GC) : Prop where
  fn : ∃ fn, P.funcs[f]? = some fn ∧ (fn.name == "runtime.NumGoroutine") = false ∧ fn.body.isNone = false
  calls : ∀ (args : List SV) (H : VH) (key : Nat) (s : SV) (u : List (Nat × Option VB)), Holds (gc args H key) s u → ∀ (m : Nat → Place) (Imm : Nat → Prop) (w : World) (vals : Array Value), Rel m Imm H w → Clean key H →
    (∀ b ∈ idsL args, inRange key b = false) → Vs m args vals.toList →
    Calls P f vals w fun e w' => ∃ m' Imm' v, e = .returned v ∧ V m' s v ∧ Step m Imm H w m' Imm' (upd u H) w' key
def GOks (P : Program) (Γ : List (Nat × GC)) : Prop := ∀ f gc, lkN Γ f = some gc → GOk P f gc

/-- The slots. -/
def Slots (m : Nat → Place) (g : Nat → SV) (a : Act) : Prop := ∀ d, V m (g d) (a.tmps.getD d undef)
def Away (key : Nat) (g : Nat → SV) : Prop := ∀ d, ∀ b ∈ (g d).ids, inRange key b = false

theorem ofVal_V (m : Nat → Place) (v : Value) : V m (ofVal v) v := by
  cases v <;> first | exact .val _ | (simp only [ofVal]; first | exact .agg _ _ (vals m _) | exact .tup _ _ (vals m _))
theorem ofVal_ids (v : Value) : (ofVal v).ids = [] := by
  cases v <;> first | rfl | (simp [ofVal, SV.ids, idsL_vals])
theorem arg_V {g : Nat → SV} {a : Act} (h : Slots m g a) (x : Operand) : V m (arg g x) (a.eval x) := by
  cases x with
  | tmp t => exact h t
  | const v => exact ofVal_V m v
  | global i => exact .undef _
  | func f => exact .fn _ _ _ _ _ .nil .nil
theorem arg_old {g : Nat → SV} (h : Away key g) (x : Operand) : Old key (arg g x) := by
  cases x with
  | tmp t => exact h t
  | const v => intro b hb; rw [show (arg g (.const v)).ids = [] from ofVal_ids v] at hb; simp at hb
  | global i => intro b hb; simp [arg, SV.ids] at hb
  | func f => intro b hb; simp [arg, SV.ids, idsL] at hb
theorem idsL_append : ∀ l r : List SV, idsL (l ++ r) = idsL l ++ idsL r
  | [], r => by simp [idsL]
  | x :: l, r => by simp [idsL, idsL_append l r]
theorem args_V {g : Nat → SV} {a : Act} (h : Slots m g a) : ∀ l : List Operand, Vs m (l.map (arg g)) (l.map a.eval)
  | [] => .nil
  | x :: l => .cons _ _ _ _ (arg_V h x) (args_V h l)
theorem args_old {g : Nat → SV} (h : Away key g) : ∀ l : List Operand, ∀ b ∈ idsL (l.map (arg g)), inRange key b = false
  | [], b, hb => by simp [idsL] at hb
  | x :: l, b, hb => by
    simp only [List.map_cons, idsL, List.mem_append] at hb
    rcases hb with hb | hb
    · exact arg_old h x b hb
    · exact args_old h l b hb

/-- An operation that comes to a value. -/
theorem wp_does {o : Oper} {a : Act} {next : Act → World → Prop} {Q : Exit → Act → World → Prop} {sem : Sem Value} (he : execOp a.eval o = (do pure (.value (← sem)))) (hd : Does P sem m Imm H w key s u)
    (hn : ∀ v m' Imm' w', V m' s v → Step m Imm H w m' Imm' (upd u H) w' key → next (a.put o.dst v) w') : o.wp P a w next Q := by
  obtain ⟨v, w', m', Imm', h1, h2, h3⟩ := hd
  unfold Oper.wp
  rw [he]
  simp only [Sem.run_bind, h1, Result.andThen_ok, Sem.run_pure]
  exact hn v m' Imm' w' h2 h3
theorem wp_doesU {o : Oper} {a : Act} {next : Act → World → Prop} {Q : Exit → Act → World → Prop} {sem : Sem Unit} (he : execOp a.eval o = (do sem; pure .skip)) (hd : DoesU P sem m Imm H w key u)
    (hn : ∀ v m' Imm' w', V m' .undef v → Step m Imm H w m' Imm' (upd u H) w' key → next (a.put o.dst v) w') : o.wp P a w next Q := by
  obtain ⟨w', m', Imm', h1, h2⟩ := hd
  unfold Oper.wp
  rw [he]
  simp only [Sem.run_bind, h1, Result.andThen_ok, Sem.run_pure]
  exact hn undef m' Imm' w' (.undef _) h2

theorem pairs_V {g : Nat → SV} {a : Act} (h : Slots m g a) (ps : Array (Nat × Operand)) : (ps.toList.map fun p => (p.1, arg g p.2)).length = (ps.map fun (i, x) => (i, a.eval x)).size ∧
    ∀ (i : Nat) (p : Nat × SV) (q : Nat × Value), (ps.toList.map fun p => (p.1, arg g p.2))[i]? = some p → (ps.map fun (i, x) => (i, a.eval x))[i]? = some q → p.1 = q.1 ∧ V m p.2 q.2 := by
  refine ⟨by simp, fun i p q h1 h2 => ?_⟩
  rw [List.getElem?_map] at h1
  rw [Array.getElem?_map] at h2
  cases hq : ps[i]? with
  | none => rw [hq] at h2; cases h2
  | some r =>
    rw [hq] at h2
    rw [show ps.toList[i]? = some r by simpa using hq] at h1
    obtain rfl := Option.some.inj h1
    obtain rfl := Option.some.inj h2
    exact ⟨rfl, arg_V h r.2⟩
theorem opt_V {g : Nat → SV} {a : Act} (h : Slots m g a) (x : Option Operand) : OptV m (x.map (arg g)) (x.map a.eval) := by
  cases x with
  | none => exact ⟨fun y hy => (nomatch hy), fun _ => rfl⟩
  | some x => exact ⟨fun y hy => ⟨_, rfl, by obtain rfl := Option.some.inj hy; exact arg_V h x⟩, fun h => (nomatch h)⟩

theorem does_move {t : TypeId} {x : SV} {v : Value} (hR : Rel m Imm H w) (hc : Clean key H) (hx : V m x v) (h : Holds (evMove T t key x) s u) : Does P (pure v) m Imm H w key s u := by
  have done : ∀ {y : SV}, V m y v → Holds (.ok y []) s u → Does P (pure v) m Imm H w key s u := by
    intro y hy h
    obtain ⟨rfl, rfl⟩ := h.ok
    exact .same hR (by simp) hy
  cases x with
  | val y =>
    cases y with
    | slice a l c =>
      match a, l, c, hx, h with
      | none, 0, 0, hx, h =>
        cases hx
        simp only [evMove] at h
        split at h
        · rename_i k hk
          obtain ⟨rfl, rfl⟩ := h.ok
          exact ⟨_, w, _, Imm, by simp, .slF0 key (by rw [setM_at]), Step.noRow (key := key) hR (hc key (inRange_self key)) (inRange_self key) true k 0 0⟩
        · exact done (.val _) h
      | none, 0, c + 1, hx, h => exact done hx h
      | none, l + 1, c, hx, h => exact done hx h
      | some a, l, c, hx, h => exact done hx h
    | _ => exact done hx h
  | _ => exact done hx h

theorem list1 {α : Type} {a : Array α} {x : α} (h : a.toList = [x]) : a = #[x] := by cases a; simp at h; subst h; rfl
theorem list2 {α : Type} {a : Array α} {x y : α} (h : a.toList = [x, y]) : a = #[x, y] := by cases a; simp at h; subst h; rfl
theorem Vs.nil' {m : Nat → Place} {l : List Value} (h : Vs m [] l) : l = [] := by cases h; rfl

theorem call_wp (hT : TOk P T) {Γ : List (Nat × GC)} (hΓ : GOks P Γ) {o : Oper} {c : Go.Call} {g : Nat → SV} {a : Act} {next : Act → World → Prop} {Q : Exit → Act → World → Prop} (hR : Rel m Imm H w) (hc : Clean key H) (hs : Slots m g a) (ha : Away key g)
    (ho : o.op = .call c) (h : Holds (evCall T Γ g c H key) s u) (hn : ∀ v m' Imm' w', V m' s v → Step m Imm H w m' Imm' (upd u H) w' key → next (a.put o.dst v) w') : o.wp P a w next Q := by
  unfold evCall at h
  have hargs : Vs m (c.args.toList.map (arg g)) (c.args.map a.eval).toList := by rw [Array.toList_map]; exact args_V hs _
  have hold := args_old ha c.args.toList
  dsimp only at h
  split at h
  · rename_i f hf
    have hfv := arg_V hs f
    have hfo := arg_old ha f
    generalize arg g f = af at h hfv hfo
    generalize hfe : a.eval f = vf at hfv
    split at h
    · rename_i n first cap
      split at h
      · rename_i gc hg
        cases hfv with
        | fn _ _ _ va vc h1 h2 =>
        obtain ⟨⟨fn, h3, h4, h5⟩, hcalls⟩ := hΓ _ _ hg
        have hrun : (execOp a.eval o).run P w = .ok (.enter n (va ++ c.args.map a.eval ++ vc)) w := by
          simp only [execOp, ho, resolve, hf, hfe, Deferred.ofValue]
          have h4' : ¬ fn.name = "runtime.NumGoroutine" := by simpa using h4
          have h5' : ¬ fn.body = none := by intro e; rw [e] at h5; simp at h5
          simp [invoke, callFunc, h3, h4', h5']
        unfold Oper.wp
        rw [hrun, Oper.upon_enter]
        refine (hcalls (first ++ c.args.toList.map (arg g) ++ cap) H key s u h m Imm w _ hR hc ?_ ?_).mono ?_
        · intro b hb
          rw [idsL_append, idsL_append] at hb
          simp only [List.mem_append] at hb
          rcases hb with (hb | hb) | hb
          · exact hfo b (by simp [SV.ids, hb])
          · exact hold b hb
          · exact hfo b (by simp [SV.ids, hb])
        · rw [Array.toList_append, Array.toList_append]; exact (h1.append hargs).append h2
        · rintro e w' ⟨m', Imm', v, rfl, h6, h7⟩
          exact hn v m' Imm' w' h6 h7
      · exact h.fail.elim
    · exact h.fail.elim
  · rename_i hb
    split at h
    · rename_i x t hx ht
      have ht := list1 ht
      rw [hx] at hargs
      cases hargs' : (c.args.map a.eval).toList with
      | nil => rw [hargs'] at hargs; cases hargs
      | cons v l =>
        rw [hargs'] at hargs
        cases hargs with
        | cons _ _ _ _ h1 h2 =>
        rw [h2.nil'] at hargs'
        refine wp_does (sem := Builtin.len_ c.argTypes o.type (c.args.map a.eval)) (by simp only [execOp, ho, resolve, hb]; simp [invoke, builtin]) ?_ hn
        rw [list1 hargs', ht]
        exact does_len hT hR h1 h
    · exact h.fail.elim
  · rename_i hb
    split at h
    · rename_i x y t t' hx ht
      rw [beqN] at h
      cases hd : decide (t = t') with
      | false => rw [hd] at h; exact h.fail.elim
      | true =>
        obtain rfl := of_decide_eq_true hd
        rw [hd] at h
        have ht := list2 ht
        rw [hx] at hargs
        cases hargs' : (c.args.map a.eval).toList with
        | nil => rw [hargs'] at hargs; cases hargs
        | cons v l =>
          rw [hargs'] at hargs
          cases hargs with
          | cons _ _ _ _ h1 h2 =>
          cases l with
          | nil => cases h2
          | cons v' l =>
            cases h2 with
            | cons _ _ _ _ h2 h3 =>
            rw [h3.nil'] at hargs'
            refine wp_does (sem := Builtin.append_ c.argTypes o.type (c.args.map a.eval)) (by simp only [execOp, ho, resolve, hb]; simp [invoke, builtin]) ?_ hn
            rw [list2 hargs', ht]
            exact does_append hT hR hc h1 h2 h
    · exact h.fail.elim
  · rename_i hb
    refine wp_does (sem := Builtin.min_ c.argTypes o.type (c.args.map a.eval)) (by simp only [execOp, ho, resolve, hb]; simp [invoke, builtin]) ?_ hn
    exact does_minMax (mx := false) (at_ := c.argTypes) (ty := o.type) hR hargs h
  · rename_i hb
    refine wp_does (sem := Builtin.max_ c.argTypes o.type (c.args.map a.eval)) (by simp only [execOp, ho, resolve, hb]; simp [invoke, builtin]) ?_ hn
    exact does_minMax (mx := true) (at_ := c.argTypes) (ty := o.type) hR hargs h
  · exact h.fail.elim

/-- A block of cells, told otherwise. -/
theorem Step.relabel (hR : Rel m Imm H w) {b : Nat} {cs l : List SV} (hb : H b = some (.cells cs)) (hl : ∀ vs, Vs m cs vs → Vs m l vs) (key : Nat) : Step m Imm H w m Imm (upd [(b, some (.cells l))] H) w key := by
  have old : ∀ b' vb', upd [(b, some (.cells l))] H b' = some vb' → ∃ vb0, H b' = some vb0 ∧ (Own (m b') vb' → Own (m b') vb0) ∧ (Hold m Imm w (m b') vb0 → Hold m Imm w (m b') vb') := by
    intro b' vb' h
    rcases upd_cases h with hp | ⟨_, h⟩
    · simp only [List.mem_singleton] at hp
      cases hp
      refine ⟨_, hb, fun _ => trivial, ?_⟩
      rintro ⟨h0, arr, t, h1, h2⟩
      exact ⟨h0, arr, t, h1, hl _ h2⟩
    · exact ⟨_, h, id, id⟩
  refine ⟨⟨?_, ?_, ?_, hR.imm⟩, fun _ _ => rfl, fun _ h => h, fun _ h => .inl h, ?_, fun _ _ _ => rfl, Calm.refl w⟩
  · intro b' vb' h
    obtain ⟨vb0, h1, _, h3⟩ := old b' vb' h
    exact h3 (hR.hold b' vb0 h1)
  · intro b1 b2 v1 v2 h1 h2 o1 o2 hne
    obtain ⟨u1, q1, r1, _⟩ := old b1 v1 h1
    obtain ⟨u2, q2, r2, _⟩ := old b2 v2 h2
    exact hR.dist b1 b2 u1 u2 q1 q2 (r1 o1) (r2 o2) hne
  · intro b' vb' h o
    obtain ⟨u1, q1, r1, _⟩ := old b' vb' h
    exact hR.apart b' u1 q1 (r1 o)
  · intro b' vb' h o
    obtain ⟨u1, q1, r1, _⟩ := old b' vb' h
    exact .inr ⟨b', u1, q1, r1 o, rfl⟩

theorem nilCs_ok : ∀ {ks : List (Option RK)} {cs l : List SV} {u : List (Nat × Option VB)} {n : Nat} {vs : List Value} {m : Nat → Place} {H : VH}, nilCs ks cs n = (l, u) → Rel m Imm H w → Vs m cs vs →
    (∀ i, i < cs.length → inRange key (n + i) = true ∧ ¬ UsedIn H (n + i) ∧ n + i ∉ idsL cs) →
    ∃ m', Vs m' l vs ∧ Step m Imm H w m' Imm (upd u H) w key ∧ (∀ b, b < n ∨ n + cs.length ≤ b → m' b = m b) ∧ (∀ p ∈ u, n ≤ p.1 ∧ p.1 < n + cs.length) ∧ (∀ vs', Vs m cs vs' → Vs m' l vs')
  | [], cs, l, u, n, vs, m, H, h, hR, hv, _ => by
    simp only [nilCs, Prod.mk.injEq] at h
    obtain ⟨rfl, rfl⟩ := h
    exact ⟨m, hv, .refl hR key, fun _ _ => rfl, fun p hp => by simp at hp, fun _ h => h⟩
  | k :: ks, [], l, u, n, vs, m, H, h, hR, hv, _ => by
    have : nilCs (k :: ks) [] n = ([], []) := by cases k <;> rfl
    rw [this] at h
    simp only [Prod.mk.injEq] at h
    obtain ⟨rfl, rfl⟩ := h
    exact ⟨m, hv, .refl hR key, fun _ _ => rfl, fun p hp => by simp at hp, fun _ h => h⟩
  | k :: ks, c :: cs, l, u, n, vs, m, H, h, hR, hv, hfr => by
    have hcase : (∃ l' u', nilCs ks cs (n + 1) = (l', u') ∧ l = c :: l' ∧ u = u') ∨ (∃ k' l' u', k = some k' ∧ c = .val (.slice none 0 0) ∧ nilCs ks cs (n + 1) = (l', u') ∧ l = .slF n :: l' ∧ u = (n, some (.row true k' [])) :: u') := by
      unfold nilCs at h
      split at h
      · rename_i e1 e2
        cases e1; cases e2
        cases h
        exact .inr ⟨_, _, _, rfl, rfl, rfl, rfl, rfl⟩
      · rename_i e1 e2
        cases e1; cases e2
        cases h
        exact .inl ⟨_, _, rfl, rfl, rfl⟩
      · rename_i e1; cases e1
      · rename_i e1 _; cases e1
    cases hv with
    | cons _ x _ r hx hr =>
    have hfr' : ∀ i, i < cs.length → inRange key (n + 1 + i) = true ∧ ¬ UsedIn H (n + 1 + i) ∧ n + 1 + i ∉ idsL cs := fun i hi => by
      obtain ⟨h1, h2, h3⟩ := hfr (i + 1) (by simp; omega)
      rw [show n + (i + 1) = n + 1 + i by omega] at h1 h2 h3
      exact ⟨h1, h2, fun h => h3 (by simp [idsL, h])⟩
    rcases hcase with ⟨l', u', h1, rfl, rfl⟩ | ⟨k', l', u', rfl, rfl, h1, rfl, rfl⟩
    · obtain ⟨m', h2, h3, h4, h5, h6⟩ := nilCs_ok h1 hR hr hfr'
      have hc : ∀ b ∈ c.ids, m' b = m b := by
        intro b hb
        by_cases e : n + 1 ≤ b ∧ b < n + 1 + cs.length
        · obtain ⟨_, _, h⟩ := hfr (b - n) (by simp; omega)
          rw [show n + (b - n) = b by omega] at h
          exact absurd (by simp [idsL, hb]) h
        · exact h4 b (by omega)
      refine ⟨m', .cons _ _ _ _ (hx.moved hc) h2, h3, fun b hb => h4 b (by simp at hb; omega), fun p hp => by have := h5 p hp; simp; omega, fun vs' hv' => ?_⟩
      cases hv' with | cons _ x' _ r' hx' hr' => exact .cons _ _ _ _ (hx'.moved hc) (h6 _ hr')
    · obtain ⟨q1, q2, _⟩ := hfr 0 (by simp)
      rw [Nat.add_zero] at q1 q2
      have hs0 := Step.noRow (key := key) hR q2 q1 true k' 0 0
      have hr0 : ∀ vs', Vs m cs vs' → Vs (setM m n ⟨0, 0, sz k', 0, 0⟩) cs vs' := fun vs' h => h.moved fun b hb => setM_ne _ _ (by
        rintro rfl
        obtain ⟨_, _, h⟩ := hfr 0 (by simp)
        exact h (by simp [idsL, hb]))
      obtain ⟨m', h2, h3, h4, h5, h6⟩ := nilCs_ok h1 hs0.rel (hr0 _ hr) (fun i hi => by
        obtain ⟨h1, h2, h3⟩ := hfr' i hi
        refine ⟨h1, ?_, h3⟩
        rintro (hU | ⟨b', cs', hU, hxx⟩)
        · rw [upd_cons, upd_nil] at hU
          simp only [if_neg (show ¬ n + 1 + i = n by omega)] at hU
          exact h2 (.inl hU)
        · rw [upd_cons, upd_nil] at hU
          by_cases e : b' = n
          · simp [e] at hU
          · simp only [if_neg e] at hU
            exact h2 (.inr ⟨b', cs', hU, hxx⟩))
      have hn : m' n = ⟨0, 0, sz k', 0, 0⟩ := by rw [h4 n (by omega), setM_at]
      refine ⟨m', .cons _ _ _ _ ?_ h2, ?_, ?_, ?_, ?_⟩
      · cases hx; exact .slF0 n (by rw [hn])
      · have e : upd ((n, some (.row true k' [])) :: u') H = upd u' (upd [(n, some (.row true k' []))] H) := by
          funext x
          rw [upd_cons]
          by_cases hxn : x = n
          · subst hxn
            simp only [if_true]
            unfold upd
            have : lkN u' x = none := lkN_none.2 fun p hp e => by have := h5 p hp; omega
            rw [this]
            simp [lkN]
          · simp only [hxn, if_false]
            unfold upd
            cases lkN u' x with
            | some v => rfl
            | none =>
              simp only [lkN]
              rw [beqN, decide_eq_false (fun e => hxn e.symm)]
              rfl
        rw [e]
        exact hs0.trans h3
      · intro b hb
        simp at hb
        rw [h4 b (by omega), setM_ne _ _ (by omega)]
      · intro p hp
        simp only [List.mem_cons] at hp
        rcases hp with rfl | hp
        · simp
        · have := h5 p hp; simp; omega
      · intro vs' hv'
        cases hv' with
        | cons _ x' _ r' hx' hr' =>
          refine .cons _ _ _ _ ?_ (h6 _ (hr0 _ hr'))
          cases hx'; exact .slF0 n (by rw [hn])

theorem does_nils {sem : Sem Value} {ks : List (Option RK)} {r : R} (hR : Rel m Imm H w) (hc : Clean key H) (hd : ∀ s u, Holds r s u → Does P sem m Imm H w key s u) (hold : ∀ cs, Holds r (.agg cs) [] → ∀ b ∈ idsL cs, inRange key b = false)
    (hnew : ∀ b b' cs, Holds r (.ptr b 0) [(b', some (.cells cs))] → ∀ x ∈ idsL cs, inRange key x = false) (h : Holds (nilR ks key r) s u) : Does P sem m Imm H w key s u := by
  have inK : ∀ {n i : Nat}, n < 62 → i < n → inRange key (key + 1 + i) = true := fun h1 h2 => by rw [inRange_iff]; unfold stride; omega
  unfold nilR at h
  split at h
  · rename_i cs
    cases hlt : Nat.blt (lenN cs) 62 with
    | false => rw [hlt] at h; exact hd _ _ h
    | true =>
      rw [hlt] at h
      rw [Nat.blt_eq, lenN_eq] at hlt
      obtain ⟨l, u', hn⟩ : ∃ l u', nilCs ks cs (key + 1) = (l, u') := ⟨_, _, rfl⟩
      rw [hn] at h
      simp only [cond_true] at h
      obtain ⟨rfl, rfl⟩ := h.ok
      obtain ⟨v, w', m', Imm', h1, h2, h3⟩ := hd _ _ (.mk _ _)
      have hids := hold cs (.mk _ _)
      cases h2 with
      | agg _ vs hvs =>
      obtain ⟨m2, g1, g2, _⟩ := nilCs_ok (key := key) hn h3.rel hvs (fun i hi => ⟨inK hlt hi, by rw [upd_nil]; exact hc _ (inK hlt hi), fun hx => by
        have := hids _ hx; rw [inK hlt hi] at this; cases this⟩)
      exact ⟨_, w', m2, Imm', h1, .agg _ _ g1, h3.trans (by rw [upd_nil] at g2 ⊢; exact g2)⟩
  · rename_i b b' cs
    cases hlt : (Nat.blt (lenN cs) 62 && (Nat.beq b key && Nat.beq b' key)) with
    | false => rw [hlt] at h; exact hd _ _ h
    | true =>
      rw [hlt] at h
      simp only [Bool.and_eq_true, Nat.blt_eq, lenN_eq] at hlt
      obtain ⟨hlt, he1, he2⟩ := hlt
      obtain rfl : b = key := Nat.eq_of_beq_eq_true he1
      obtain rfl : b' = b := Nat.eq_of_beq_eq_true he2
      obtain ⟨l, u', hn⟩ : ∃ l u', nilCs ks cs (b' + 1) = (l, u') := ⟨_, _, rfl⟩
      rw [hn] at h
      simp only [cond_true] at h
      obtain ⟨rfl, rfl⟩ := h.ok
      obtain ⟨v, w', m', Imm', h1, h2, h3⟩ := hd _ _ (.mk _ _)
      have hids := hnew b' b' cs (.mk _ _)
      have hat : upd [(b', some (.cells cs))] H b' = some (.cells cs) := by rw [upd_cons]; simp
      obtain ⟨_, arr, ty, q1, q2⟩ := h3.rel.hold b' _ hat
      obtain ⟨m2, g1, g2, g3, g4, g5⟩ := nilCs_ok (key := b') hn h3.rel q2 (fun i hi => ⟨inK hlt hi, by
        have hin := inK hlt hi
        rintro (hU | ⟨c, cs', hU, hxx⟩)
        · rw [upd_cons, upd_nil] at hU
          simp only [if_neg (show ¬ b' + 1 + i = b' by omega)] at hU
          exact hc _ hin (.inl hU)
        · rw [upd_cons, upd_nil] at hU
          by_cases e : c = b'
          · simp only [e, if_true, Option.some.injEq, VB.cells.injEq] at hU
            subst hU
            have := hids _ hxx; rw [hin] at this; cases this
          · simp only [if_neg e] at hU
            exact hc _ hin (.inr ⟨c, cs', hU, hxx⟩), fun hx => by
        have := hids _ hx; rw [inK hlt hi] at this; cases this⟩)
      have hat2 : upd u' (upd [(b', some (.cells cs))] H) b' = some (.cells cs) := by
        unfold upd
        have : lkN u' b' = none := lkN_none.2 fun p hp e => by have := g4 p hp; omega
        rw [this]
        exact hat
      have hs := (h3.trans g2).trans (Step.relabel g2.rel hat2 (fun vs hvs => by
        have hvs' : Vs m' cs vs := hvs.moved fun x hx => (g3 x (by
          have := hids x hx
          cases e : inRange b' x with
          | true => rw [e] at this; cases this
          | false =>
            by_cases h : x < b' + 1
            · exact .inl h
            · right
              have : ¬ (b' ≤ x ∧ x < b' + 64) := by rw [← show stride = 64 from rfl, ← inRange_iff, e]; simp
              omega)).symm
        exact g5 vs hvs') b')
      refine ⟨v, w', m2, Imm', h1, ?_, ?_⟩
      · cases h2
        have e := g3 b' (.inl (by omega))
        rw [← e]
        exact .ptr b' 0
      · have e : upd ((b', some (.cells l)) :: u') H = upd [(b', some (.cells l))] (upd u' (upd [(b', some (.cells cs))] H)) := by
          funext x
          rw [upd_cons, upd_cons, upd_nil]
          by_cases hx : x = b'
          · simp [hx]
          · simp only [if_neg hx]
            unfold upd
            cases lkN u' x with
            | some v => rfl
            | none =>
              simp only [lkN]
              rw [beqN, decide_eq_false (fun e => hx e.symm)]
              rfl
        rw [e]
        exact hs
  · exact hd _ _ h

theorem alloc_ids {t : TypeId} : (∀ cs, Holds (evAlloc T t key) (.agg cs) [] → ∀ b ∈ idsL cs, inRange key b = false) ∧ ∀ b b' cs, Holds (evAlloc T t key) (.ptr b 0) [(b', some (.cells cs))] → ∀ x ∈ idsL cs, inRange key x = false := by
  refine ⟨fun cs h => ?_, fun b b' cs h => ?_⟩
  all_goals
    unfold evAlloc at h
    split at h
    · split at h
      · split at h
        · obtain ⟨h1, h2⟩ := h.ok; cases h1; try cases h2
        · exact h.fail.elim
      · exact h.fail.elim
    · obtain ⟨h1, h2⟩ := h.ok
      cases h1
      all_goals
        cases h2
        intro x hx
        rw [idsL_vals] at hx
        simp at hx
    · exact h.fail.elim
theorem idsL_iff : ∀ {l : List SV} {b : Nat}, b ∈ idsL l ↔ ∃ s ∈ l, b ∈ s.ids
  | [], b => by simp [idsL]
  | s :: l, b => by simp [idsL, idsL_iff (l := l)]
theorem cells_ids' {x : SV} {b : Nat} (h : b ∈ idsL x.cells) : b ∈ x.ids := by
  cases x <;> simp [SV.cells, idsL, SV.ids] at h ⊢ <;> exact h
theorem partsIn_ids {place : Nat → Option (Nat × Nat)} : ∀ {ps : List (Nat × SV)} {cs cs' : List SV} {b : Nat}, partsIn T place ps cs = some cs' → b ∈ idsL cs' → b ∈ idsL cs ∨ ∃ p ∈ ps, b ∈ p.2.ids
  | [], cs, cs', b, h, hb => by
    simp only [partsIn, Option.some.injEq] at h
    subst h
    exact .inl hb
  | (i, x) :: ps, cs, cs', b, h, hb => by
    unfold partsIn at h
    split at h
    · rename_i o sz' _
      cases hc : (Nat.beq (lenN x.cells) sz' && Nat.ble (o + sz') (lenN cs) && x.cells.all SV.one) with
      | false => rw [hc] at h; cases h
      | true =>
        rw [hc] at h
        simp only [cond_true, fL_eq] at h
        rcases partsIn_ids (ps := ps) h hb with hb | ⟨p, hp, hb⟩
        · obtain ⟨s, hs, hb⟩ := idsL_iff.1 hb
          simp only [splice, List.mem_append] at hs
          rcases hs with (hs | hs) | hs
          · exact .inl (idsL_iff.2 ⟨s, List.mem_of_mem_take hs, hb⟩)
          · exact .inr ⟨(i, x), List.mem_cons_self, cells_ids' (idsL_iff.2 ⟨s, hs, hb⟩)⟩
          · exact .inl (idsL_iff.2 ⟨s, List.mem_of_mem_drop hs, hb⟩)
        · exact .inr ⟨p, List.mem_cons_of_mem _ hp, hb⟩
    · cases h
theorem build_ids {t : TypeId} {ps : List (Nat × SV)} (hp : ∀ p ∈ ps, ∀ b ∈ p.2.ids, inRange key b = false) : ∀ cs, Holds (evBuild T t ps) (.agg cs) [] → ∀ b ∈ idsL cs, inRange key b = false := by
  intro cs h b hb
  have main : ∀ {place : Nat → Option (Nat × Nat)} {z : List Value}, partsIn T place ps (z.map .val) = some cs → inRange key b = false := by
    intro place z hz
    rcases partsIn_ids hz hb with h | ⟨p, hp', h⟩
    · rw [idsL_vals] at h; simp at h
    · exact hp p hp' b h
  unfold evBuild at h
  split at h
  · split at h
    · rename_i hc; obtain ⟨h1, _⟩ := h.ok; cases h1; exact main hc
    · exact h.fail.elim
  · split at h
    · split at h
      · rename_i hc; obtain ⟨h1, _⟩ := h.ok; cases h1; exact main hc
      · exact h.fail.elim
    · exact h.fail.elim
  · exact h.fail.elim
theorem build_no_ptr {t : TypeId} {ps : List (Nat × SV)} {b : Nat} {u' : List (Nat × Option VB)} (h : Holds (evBuild T t ps) (.ptr b 0) u') : False := by
  unfold evBuild at h
  split at h
  · split at h
    · obtain ⟨h1, _⟩ := h.ok; cases h1
    · exact h.fail
  · split at h
    · split at h
      · obtain ⟨h1, _⟩ := h.ok; cases h1
      · exact h.fail
    · exact h.fail
  · exact h.fail
/-- What the evaluator says of one operation, it does. -/
theorem op_wp (hT : TOk P T) {Γ : List (Nat × GC)} (hΓ : GOks P Γ) {o : Oper} {g : Nat → SV} {a : Act} {next : Act → World → Prop} {Q : Exit → Act → World → Prop} (hR : Rel m Imm H w) (hc : Clean key H) (hs : Slots m g a) (ha : Away key g)
    (h : Holds (ev T Γ g o H key) s u) (hn : ∀ v m' Imm' w', V m' s v → Step m Imm H w m' Imm' (upd u H) w' key → next (a.put o.dst v) w') : o.wp P a w next Q := by
  unfold ev at h
  split at h
  · rename_i x ho
    exact wp_does (by simp [execOp, ho]) (does_move hR hc (arg_V hs x) h) hn
  · rename_i x ho
    exact wp_does (by simp [execOp, ho]) (does_move hR hc (arg_V hs x) h) hn
  · rename_i t ho
    exact wp_does (by simp [execOp, ho]) (does_nils hR hc (fun s u h => does_alloc hT hR hc h) (alloc_ids.1) (alloc_ids.2) h) hn
  · rename_i t x ho
    exact wp_does (by simp [execOp, ho]) (does_box hR hc (arg_V hs x) (arg_old ha x) h) hn
  · rename_i t ps ho
    obtain ⟨h1, h2⟩ := pairs_V hs ps
    exact wp_does (by simp [execOp, ho]) (does_nils hR hc (fun s u h => does_build hT hR h1 h2 h) (build_ids (fun p hp => by obtain ⟨q, _, rfl⟩ := List.mem_map.1 hp; exact arg_old ha q.2)) (fun b b' cs h => (build_no_ptr h).elim) h) hn
  · rename_i t n ps ho
    obtain ⟨h1, h2⟩ := pairs_V hs ps
    exact wp_does (by simp [execOp, ho]) (does_buildSlice hT hR hc h1 h2 h) hn
  · rename_i t x ho
    exact wp_does (by simp [execOp, ho]) (does_load hT hR hc (arg_V hs x) h) hn
  · rename_i t x y ho
    obtain ⟨rfl, hd⟩ := does_store hT hR (arg_V hs x) (arg_V hs y) h key
    exact wp_doesU (by simp [execOp, ho]) hd hn
  · rename_i x ho
    have hx := arg_V hs x
    unfold Oper.wp
    have hval : (execOp a.eval o).run P w = .ok (.value (a.eval x)) w ∧ u = [] ∧ s = arg g x := by
      generalize hax : arg g x = ax at h hx ⊢
      unfold evNil at h
      split at h
      · obtain ⟨rfl, rfl⟩ := h.ok
        generalize hv : a.eval x = v at hx
        cases hx
        exact ⟨by simp [execOp, ho, hv], rfl, rfl⟩
      · obtain ⟨rfl, rfl⟩ := h.ok
        generalize hv : a.eval x = v at hx
        cases hx
        exact ⟨by simp [execOp, ho, hv], rfl, rfl⟩
      · obtain ⟨rfl, rfl⟩ := h.ok
        generalize hv : a.eval x = v at hx
        cases hx
        exact ⟨by simp [execOp, ho, hv], rfl, rfl⟩
      · exact h.fail.elim
    obtain ⟨h1, rfl, rfl⟩ := hval
    rw [h1]
    exact hn _ m Imm w hx (.refl hR key)
  · rename_i op t x y ty ho
    exact wp_does (by simp [execOp, ho]) (does_bin (ox := x) (oy := y) hT hR (arg_V hs x) (arg_V hs y) h) hn
  · rename_i op t x ho
    exact wp_does (by simp [execOp, ho]) (does_un hR (arg_V hs x) h) hn
  · rename_i t t' x ho
    exact wp_does (by simp [execOp, ho]) (does_conv hT hR (arg_V hs x) h) hn
  · rename_i f x y ho
    obtain ⟨rfl, rfl⟩ := h.ok
    exact wp_does (sem := Instr.makeFunc f (x.map a.eval) (y.map a.eval)) (by simp only [execOp, ho]) (Does.same (v := .func f (x.map a.eval) (y.map a.eval)) hR (by simp [Instr.makeFunc]) (.fn _ _ _ _ _ (by rw [Array.toList_map]; exact args_V hs _) (by rw [Array.toList_map]; exact args_V hs _))) hn
  · rename_i t x y ho
    exact wp_does (by simp [execOp, ho]) (does_makeSlice hT hR hc (arg_V hs x) (arg_V hs y) h) hn
  · rename_i t x lo hi mx ho
    exact wp_does (by simp [execOp, ho]) (does_slice hT hR (arg_V hs x) (opt_V hs lo) (opt_V hs hi) (opt_V hs mx) h) hn
  · rename_i t x f ho
    exact wp_does (by simp [execOp, ho]) (does_fieldAddr hT hR (arg_V hs x) h) hn
  · rename_i t x f ho
    exact wp_does (by simp [execOp, ho]) (does_field hT hR (arg_V hs x) h) hn
  · rename_i t x y ho
    exact wp_does (by simp [execOp, ho]) (does_indexAddr hT hR (arg_V hs x) (arg_V hs y) h) hn
  · rename_i t x y ho
    exact wp_does (by simp [execOp, ho]) (does_index hT hR (arg_V hs x) (arg_V hs y) h) hn
  · rename_i x i ho
    refine wp_does (sem := Instr.extract (a.eval x) i) (by simp [execOp, ho]) ?_ hn
    have hx := arg_V hs x
    generalize arg g x = ax at h hx
    generalize a.eval x = v at hx
    unfold evExtract at h
    split at h
    · cases hx with
      | tup cs vs hvs =>
      split at h
      · rename_i c hci
        obtain ⟨rfl, rfl⟩ := h.ok
        obtain ⟨y, h1, h2⟩ := hvs.get hci
        have h1' : vs[i]? = some y := by simpa using h1
        exact .same hR (by simp [Instr.extract, h1']) h2
      · exact h.fail.elim
    · exact h.fail.elim
  · rename_i c ho
    exact call_wp hT hΓ hR hc hs ha ho h hn
  · exact h.fail.elim
end Go.Proofs.Ytncdakkigkmfjaa.Sx
