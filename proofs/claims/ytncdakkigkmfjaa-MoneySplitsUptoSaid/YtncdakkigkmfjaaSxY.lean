import Derived.Test.YtncdakkigkmfjaaSxX
import Derived.Orders
/-! Operations in any order that the edges leave. -/
namespace Go.Proofs.Ytncdakkigkmfjaa.Sx
open Go
set_option linter.unusedVariables false
set_option linter.unusedSimpArgs false

theorem tmp_in {ops : List Oper} {o : Oper} {t : Nat} (h : Operand.tmp t ∈ o.op.operands) : t ∈ insOf ops o :=
  List.mem_append_right _ (List.mem_filterMap.2 ⟨.tmp t, by simpa using h, rfl⟩)
theorem args_congr {ops : List Oper} {o : Oper} {g g' : Nat → SV} (h : ∀ d ∈ insOf ops o, g' d = g d) : ∀ x ∈ o.op.operands, arg g' x = arg g x := by
  intro x hx
  cases x with
  | tmp t => exact h t (tmp_in hx)
  | _ => rfl

theorem behind_congr {H H' : VH} {ids : List Nat} (h : ∀ b ∈ ids, H' b = H b) : behind H' ids = behind H ids := by
  unfold behind
  rw [List.flatMap_def, List.flatMap_def]
  congr 1
  exact List.map_congr_left fun b hb => by simp only [h b hb]
theorem reachN_congr {H H' : VH} : ∀ {n : Nat} {l : List Nat}, (∀ b ∈ reachN n H l, H' b = H b) → reachN n H' l = reachN n H l
  | 0, l, _ => rfl
  | n + 1, l, h => by
    simp only [reachN] at h ⊢
    have h2 : behind H' l = behind H l := behind_congr fun b hb => h b (List.mem_append_left _ hb)
    rw [h2, reachN_congr fun b hb => h b (List.mem_append_right _ hb)]
theorem reach_congr {o : Oper} {g g' : Nat → SV} {H H' : VH} (hg : ∀ x ∈ o.op.operands, arg g' x = arg g x) (hH : ∀ b ∈ reach g H o, H' b = H b) : reach g' H' o = reach g H o := by
  have h1 : o.op.operands.toList.map (arg g') = o.op.operands.toList.map (arg g) := List.map_congr_left fun x hx => hg x (by simpa using hx)
  unfold reach at hH ⊢
  rw [h1]
  exact reachN_congr hH
theorem hidden_congr {H H' : VH} {ids : List Nat} (h : ∀ b ∈ ids, H' b = H b) : hidden ids H' = hidden ids H := by
  funext b
  by_cases hb : b ∈ ids
  · rw [hidden_in _ hb, hidden_in _ hb, h b hb]
  · rw [hidden_out _ hb, hidden_out _ hb]

theorem reach_args {o : Oper} {g g' : Nat → SV} (hg : ∀ x ∈ o.op.operands, arg g' x = arg g x) : o.op.operands.toList.map (arg g') = o.op.operands.toList.map (arg g) := List.map_congr_left fun x hx => hg x (by simpa using hx)
/-- What looks at nothing. -/
theorem ev_still {T : TT} {Γ : List (Nat × GC)} {g : Nat → SV} {o : Oper} {H H' : VH} {key : Nat} (hc : clsOf o.op = 0) : ev T Γ g o H' key = ev T Γ g o H key := by
  obtain ⟨dst, op, type, pos, after, guard⟩ := o
  cases op <;> first | rfl | (simp [clsOf] at hc; done)
theorem ev_load {T : TT} {Γ : List (Nat × GC)} {g : Nat → SV} {o : Oper} {H H' : VH} {key : Nat} {s : SV} {u : List (Nat × Option VB)} (hc : clsOf o.op = 1) (h : Holds (ev T Γ g o H key) s u) :
    ∃ b, idsL (o.op.operands.toList.map (arg g)) = [b] ∧ (H' b = H b → ev T Γ g o H' key = ev T Γ g o H key) := by
  obtain ⟨dst, op, type, pos, after, guard⟩ := o
  cases op with
  | load t a =>
    simp only [Op.operands, ev] at h ⊢
    have e : idsL ([a].map (arg g)) = (arg g a).ids := by simp [idsL]
    change ∃ b, idsL ([a].map (arg g)) = [b] ∧ _
    rw [e]
    generalize arg g a = x at h ⊢
    cases x with
    | ptr b j => exact ⟨b, rfl, fun hb => by unfold evLoad; simp only [hb]⟩
    | elt b i j => exact ⟨b, rfl, fun hb => by unfold evLoad; simp only [hb]⟩
    | _ => unfold evLoad at h; split at h <;> cases h
  | _ => simp [clsOf] at hc
theorem Acts1.frame {T : TT} {Γ : List (Nat × GC)} {o : Oper} {key : Nat} {g g' : Nat → SV} {H H' : VH} {s : SV} {u : List (Nat × Option VB)} {ids : List Nat} (h : Acts1 T Γ o key g H s u ids)
    (hg : ∀ x ∈ o.op.operands, arg g' x = arg g x) (hH : ∀ b ∈ needOf o ids, H' b = H b) : Acts1 T Γ o key g' H' s u ids := by
  cases h with
  | pick c a b t ho hc =>
    rw [ho] at hg
    simp only [Op.operands] at hg
    rw [← hg a (by simp), ← hg b (by simp)]
    exact .pick c a b t ho ((hg c (by simp)).trans hc)
  | ev s u h ht =>
    have key1 : reach g' H' o = reach g H o → (Holds (Sx.ev T Γ g o (hidden (reach g H o) H') key) s u) → Acts1 T Γ o key g' H' s u (reach g H o) := by
      intro hr h'
      rw [← hr]
      refine .ev s u ?_ (by rw [hr]; exact ht)
      unfold evS
      rw [hr, ev_congr o hg]
      exact h'
    unfold needOf at hH
    split at hH
    · rename_i hc
      refine key1 ?_ ?_
      · unfold reach deepOf
        simp only [hc, reachN]
        rw [reach_args hg]
      · rw [ev_still (H := hidden (reach g H o) H) hc]; exact h
    · rename_i hc
      obtain ⟨b, hb, hl⟩ := ev_load (H' := hidden (reach g H o) H') hc h
      have hr : reach g H o = b :: behind H [b] := by
        unfold reach deepOf
        simp only [hc, reachN, hb]
        rfl
      rw [hr] at hH
      have hHb : H' b = H b := hH b (by simp [take1])
      refine key1 ?_ ?_
      · rw [hr]
        unfold reach deepOf
        simp only [hc, reachN]
        rw [reach_args hg, hb, behind_congr (H := H) (H' := H') fun c hc => by rw [List.mem_singleton] at hc; rw [hc]; exact hHb]
        rfl
      · rw [hl (by rw [hidden_in _ (by rw [hr]; simp), hidden_in _ (by rw [hr]; simp), hHb])]
        exact h
    · have hr := reach_congr hg hH
      refine key1 hr ?_
      rw [hidden_congr hH]
      exact h
theorem Acts.frame {T : TT} {Γ : List (Nat × GC)} {ops : List Oper} {o : Oper} {key : Nat} {g g' : Nat → SV} {H H' : VH} {s : SV} {u : List (Nat × Option VB)} {ids : List Nat} (h : Acts T Γ ops o key g H s u ids)
    (hg : ∀ d ∈ insOf ops o, g' d = g d) (hH : ∀ b ∈ needOf o ids, H' b = H b) : Acts T Γ ops o key g' H' s u ids := by
  cases h with
  | plain s u ids h0 h => exact .plain s u ids h0 (h.frame (args_congr hg) hH)
  | yes s u ids j d want h0 hj hv h => exact .yes s u ids j d want h0 hj ((hg d (by simp [insOf, h0, hj])).trans hv) (h.frame (args_congr hg) hH)
  | off j d want a h0 hj hv => exact .off j d want a h0 hj ((hg d (by simp [insOf, h0, hj])).trans hv)
  | no j d want t h0 hj hv ht => exact .no j d want t h0 hj ((hg d (by simp [insOf, h0, hj])).trans hv) ht

/-! The state after some of the operations. -/
def last (W : Nat → Bool) : Nat → Option Nat
  | 0 => none
  | n + 1 => bif W n then some n else last W n
theorem last_congr {W W' : Nat → Bool} : ∀ n, (∀ k, k < n → W k = W' k) → last W n = last W' n
  | 0, _ => rfl
  | n + 1, h => by
    simp only [last]
    rw [h n (Nat.lt_succ_self n), last_congr n fun k hk => h k (Nat.lt_succ_of_lt hk)]
theorem last_top {W : Nat → Bool} {i : Nat} : ∀ n, i < n → W i = true → (∀ k, i < k → k < n → W k = false) → last W n = some i
  | 0, h, _, _ => absurd h (Nat.not_lt_zero _)
  | n + 1, h, hi, hk => by
    simp only [last]
    by_cases e : i = n
    · subst e; rw [hi]; rfl
    · rw [hk n (by omega) (Nat.lt_succ_self n)]
      exact last_top n (by omega) hi fun k h1 h2 => hk k h1 (Nat.lt_succ_of_lt h2)

structure Plan where
  n : Nat
  D : Nat → Option Nat
  r : Nat → Rec
  g0 : Nat → SV
  H0 : VH
def Plan.W (p : Plan) (S : Nat → Bool) (d k : Nat) : Bool := S k && decide (p.D k = some d)
def Plan.WH (p : Plan) (S : Nat → Bool) (b k : Nat) : Bool := S k && (lkN (p.r k).u b).isSome
def Plan.G (p : Plan) (S : Nat → Bool) : Nat → SV := fun d => match last (p.W S d) p.n with
  | some k => (p.r k).s
  | none => p.g0 d
def Plan.H (p : Plan) (S : Nat → Bool) : VH := fun b => match last (p.WH S b) p.n with
  | some k => (match lkN (p.r k).u b with | some v => v | none => none)
  | none => p.H0 b

theorem Plan.G_congr {p : Plan} {S S' : Nat → Bool} {d : Nat} (h : ∀ k, k < p.n → p.D k = some d → S k = S' k) : p.G S d = p.G S' d := by
  unfold Plan.G
  rw [last_congr (W' := p.W S' d)]
  intro k hk
  unfold Plan.W
  by_cases e : p.D k = some d
  · rw [h k hk e]
  · simp [e]
theorem Plan.H_congr {p : Plan} {S S' : Nat → Bool} {b : Nat} (h : ∀ k, k < p.n → (lkN (p.r k).u b).isSome = true → S k = S' k) : p.H S b = p.H S' b := by
  unfold Plan.H
  rw [last_congr (W' := p.WH S' b)]
  intro k hk
  unfold Plan.WH
  cases e : (lkN (p.r k).u b).isSome with
  | true => rw [h k hk e]
  | false => simp
theorem Plan.G_put {p : Plan} {S S' : Nat → Bool} {i : Nat} (hi : i < p.n) (hS : S' i = true) (hne : ∀ k, k < p.n → k ≠ i → S' k = S k) (ha : ∀ k d, i < k → k < p.n → S k = true → p.D i = some d → p.D k ≠ some d) :
    p.G S' = setG (p.G S) (p.D i) (p.r i).s := by
  funext d
  have other : p.D i ≠ some d → p.G S' d = p.G S d := fun h => G_congr fun k hk hd => hne k hk (by rintro rfl; exact h hd)
  cases hD : p.D i with
  | none => exact other (by rw [hD]; simp)
  | some d0 =>
    simp only [setG]
    by_cases e : d = d0
    · subst e
      simp only [if_true]
      unfold Plan.G
      rw [last_top (i := i) p.n hi (by simp [Plan.W, hS, hD])]
      intro k h1 h2
      unfold Plan.W
      rw [hne k h2 (by omega)]
      cases hk : S k with
      | false => rfl
      | true => simpa using ha k d h1 h2 hk hD
    · simp only [e, if_false]
      exact other (by rw [hD]; intro h; exact e (Option.some.inj h).symm)
theorem Plan.H_put {p : Plan} {S S' : Nat → Bool} {i : Nat} (hi : i < p.n) (hS : S' i = true) (hne : ∀ k, k < p.n → k ≠ i → S' k = S k)
    (ha : ∀ k b, i < k → k < p.n → S k = true → (lkN (p.r i).u b).isSome = true → (lkN (p.r k).u b).isSome = false) : p.H S' = upd (p.r i).u (p.H S) := by
  funext b
  unfold upd
  cases hb : lkN (p.r i).u b with
  | none => exact H_congr fun k hk hd => hne k hk (by rintro rfl; rw [hb] at hd; cases hd)
  | some v =>
    show p.H S' b = v
    unfold Plan.H
    rw [last_top (i := i) p.n hi (by simp [Plan.WH, hS, hb])]
    · simp [hb]
    · intro k h1 h2
      unfold Plan.WH
      rw [hne k h2 (by omega)]
      cases hk : S k with
      | false => rfl
      | true => simpa using ha k b h1 h2 hk (by rw [hb]; rfl)

def upto (i k : Nat) : Bool := decide (k < i)
theorem Plan.G_next (p : Plan) {i : Nat} (hi : i < p.n) : p.G (upto (i + 1)) = setG (p.G (upto i)) (p.D i) (p.r i).s :=
  G_put hi (by simp [upto]) (fun k _ h => by simp only [upto]; congr 1; simp only [eq_iff_iff]; omega) (fun k d h1 _ h2 => by simp only [upto, decide_eq_true_eq] at h2; omega)
theorem Plan.H_next (p : Plan) {i : Nat} (hi : i < p.n) : p.H (upto (i + 1)) = upd (p.r i).u (p.H (upto i)) :=
  H_put hi (by simp [upto]) (fun k _ h => by simp only [upto]; congr 1; simp only [eq_iff_iff]; omega) (fun k d h1 _ h2 => by simp only [upto, decide_eq_true_eq] at h2; omega)
theorem last_none (n : Nat) : last (fun _ => false) n = none := by
  induction n with
  | zero => rfl
  | succ n ih => simpa [last] using ih
theorem Plan.G_zero (p : Plan) : p.G (upto 0) = p.g0 := by
  funext d
  unfold Plan.G
  rw [last_congr (W' := fun _ => false) p.n (fun k _ => by simp [Plan.W, upto]), last_none]
theorem Plan.H_zero (p : Plan) : p.H (upto 0) = p.H0 := by
  funext d
  unfold Plan.H
  rw [last_congr (W' := fun _ => false) p.n (fun k _ => by simp [Plan.WH, upto]), last_none]

theorem dstOf_at {ops : List Oper} {i : Nat} {o : Oper} (h : ops[i]? = some o) : dstOf ops i = o.dst := by unfold dstOf; rw [h]

theorem Tr.plan {T : TT} {Γ : List (Nat × GC)} {ops : List Oper} {p : Plan} {key0 : Nat} (hn : p.n = ops.length) (hD : ∀ i, p.D i = dstOf ops i) {l : List Oper} {key : Nat} {g : Nat → SV} {H : VH} {rs : List Rec} {g' : Nat → SV} {H' : VH}
    (h : Tr T Γ ops l key g H rs g' H') : ∀ (i : Nat), i + l.length = ops.length → (∀ j, l[j]? = ops[i + j]?) → (∀ j r, rs[j]? = some r → p.r (i + j) = r) → g = p.G (upto i) → H = p.H (upto i) → key = key0 + i * stride →
      (∀ j o, i ≤ j → ops[j]? = some o → Acts T Γ ops o (key0 + j * stride) (p.G (upto j)) (p.H (upto j)) (p.r j).s (p.r j).u (p.r j).ids) ∧ g' = p.G (upto p.n) ∧ H' = p.H (upto p.n) := by
  induction h with
  | nil key g H =>
    intro i hi hl hr hg hH hk
    have hi : i = ops.length := by simpa using hi
    subst hi
    refine ⟨fun j o h1 h2 => ?_, by rw [hg, hn], by rw [hH, hn]⟩
    have := (List.getElem?_eq_some_iff.1 h2).1
    omega
  | cons o l key g H r rs g' H' ha _ ih =>
    intro i hi hl hr hg hH hk
    simp only [List.length_cons] at hi
    have ho : ops[i]? = some o := by simpa using (hl 0).symm
    have hri : p.r i = r := hr 0 r rfl
    have hlt : i < p.n := by omega
    subst hg hH hk
    obtain ⟨h1, h2⟩ := ih (i + 1) (by omega) (fun j => by have := hl (j + 1); rw [show i + 1 + j = i + (j + 1) by omega]; simpa using this) (fun j r' hj => by have := hr (j + 1) r' (by simpa using hj); rw [← this]; congr 1; omega)
      (by rw [p.G_next hlt, hri, hD, dstOf_at ho]) (by rw [p.H_next hlt, hri]) (by rw [Nat.add_mul]; omega)
    refine ⟨fun j o' h3 h4 => ?_, h2⟩
    by_cases e : j = i
    · subst e
      rw [ho] at h4
      obtain rfl := Option.some.inj h4
      rw [hri]; exact ha
    · exact h1 j o' (by omega) h4
end Go.Proofs.Ytncdakkigkmfjaa.Sx
