import Derived.Test.YtncdakkigkmfjaaSxD
/-! What the evaluator's values and blocks stand for in the model's world. -/
namespace Go.Proofs.Ytncdakkigkmfjaa.Sx
open Go
set_option linter.unusedVariables false
set_option linter.unusedSimpArgs false

universe u
theorem fN_eq {β : Sort u} (n : Nat) (K : Nat → β) : fN n K = K n := by cases n <;> rfl
theorem fV_eq {β : Sort u} (x : Value) (K : Value → β) : fV x K = K x := by cases x <;> rfl
mutual
theorem fS_eq {β : Sort u} : ∀ (s : SV) (K : SV → β), fS s K = K s
  | .undef, K => rfl
  | .val x, K => by simp [fS, fV_eq]
  | .ptr b j, K => by simp [fS, fN_eq]
  | .elt b i j, K => by simp [fS, fN_eq]
  | .slF b, K => by simp [fS, fN_eq]
  | .slP b i n, K => by simp [fS, fN_eq]
  | .agg cs, K => by simp [fS, fL_eq cs]
  | .tup cs, K => by simp [fS, fL_eq cs]
  | .fn f a c, K => by simp [fS, fL_eq a, fL_eq c]
theorem fL_eq {β : Sort u} : ∀ (l : List SV) (K : List SV → β), fL l K = K l
  | [], K => rfl
  | x :: l, K => by simp [fL, fS_eq x, fL_eq l]
end
theorem fNs_eq {β : Sort u} : ∀ (l : List Nat) (K : List Nat → β), fNs l K = K l
  | [], K => rfl
  | a :: l, K => by simp [fNs, fN_eq, fNs_eq l]
/-- Where a block lies: its first cell, the cells of an element, how many elements there is room for, how many there are. -/
structure Place where
  blk : Nat
  off : Nat
  sz : Nat
  cap : Nat
  len : Nat

mutual
inductive V (m : Nat → Place) : SV → Value → Prop
  | undef (x : Value) : V m .undef x
  | val (x : Value) : V m (.val x) x
  | ptr (b j : Nat) : V m (.ptr b j) (.pointer (some ⟨(m b).blk, (m b).off + j, none⟩))
  | elt (b : Nat) (i : Int) (j : Nat) (h : 0 ≤ i) : V m (.elt b i j) (.pointer (some ⟨(m b).blk, (m b).off + (i.toNat * (m b).sz + j), none⟩))
  | slF (b c : Nat) (h : (m b).len ≤ c) (h' : c ≤ (m b).cap) : V m (.slF b) (.slice (some ⟨(m b).blk, (m b).off, none⟩) (m b).len c)
  | slF0 (b : Nat) (h : (m b).len = 0) : V m (.slF b) (.slice none 0 0)
  | slP (b i n c : Nat) (h : n ≤ c) (h' : i + c ≤ (m b).cap) (hn : i + n ≤ (m b).len) : V m (.slP b i n) (.slice (some ⟨(m b).blk, (m b).off + i * (m b).sz, none⟩) n c)
  | slP0 (b i : Nat) (a : Option (Nat × Nat)) : V m (.slP b i 0) (.slice (a.map fun p => ⟨p.1, p.2, none⟩) 0 0)
  | agg (cs : List SV) (vs : Array Value) (h : Vs m cs vs.toList) : V m (.agg cs) (.agg vs)
  | tup (cs : List SV) (vs : Array Value) (h : Vs m cs vs.toList) : V m (.tup cs) (.tuple vs)
  | fn (f : Fn) (a c : List SV) (va vc : Array Value) (h : Vs m a va.toList) (h' : Vs m c vc.toList) : V m (.fn f a c) (.func f va vc)
inductive Vs (m : Nat → Place) : List SV → List Value → Prop
  | nil : Vs m [] []
  | cons (s : SV) (x : Value) (l : List SV) (r : List Value) (h : V m s x) (h' : Vs m l r) : Vs m (s :: l) (x :: r)
end

/-- An element's cell, in memory that nobody writes. -/
inductive CV (Imm : Nat → Prop) (w : World) : CS → Value → Prop
  | v (x : Value) : CV Imm w (.v x) x
  | s (k : RK) (ys : List (El k)) (blk off c : Nat) (f : Nat → Nat → Value) (hi : ys ≠ [] → Imm blk) (hc : ys.length ≤ c)
      (hl : ∀ i j e, i < ys.length → (enc k (ys.getD i (zK k)))[j]? = some e → w.cell? ⟨blk, off + (i * sz k + j), none⟩ = some (f i j))
      (hf : ∀ i j e, i < ys.length → (enc k (ys.getD i (zK k)))[j]? = some e → CV Imm w e (f i j)) : CV Imm w (.s k ys) (.slice (some ⟨blk, off, none⟩) ys.length c)
  | s0 (k : RK) : CV Imm w (.s k []) (.slice none 0 0)

/-- A row's elements, read in memory. -/
def Reads (Imm : Nat → Prop) (w : World) (p : Place) (k : RK) (xs : List (El k)) : Prop :=
  ∀ i j e, i < xs.length → (enc k (xs.getD i (zK k)))[j]? = some e → ∃ v, w.cell? ⟨p.blk, p.off + (i * sz k + j), none⟩ = some v ∧ CV Imm w e v

/-- Is the block one that may be written? -/
def Own (p : Place) : VB → Prop
  | .cells _ => True
  | .row true _ _ => 0 < p.cap
  | .row false _ _ => False

def Hold (m : Nat → Place) (Imm : Nat → Prop) (w : World) (p : Place) : VB → Prop
  | .cells cs => p.off = 0 ∧ ∃ arr t, w.heap[p.blk]? = some (.cells arr t (0, 0)) ∧ Vs m cs arr.toList
  | .row own k xs => p.sz = sz k ∧ p.len = xs.length ∧ xs.length ≤ p.cap ∧ Reads Imm w p k xs ∧
      (own = true → 0 < p.cap → p.off = 0 ∧ ∃ arr t, w.heap[p.blk]? = some (.cells arr t (0, 0)) ∧ arr.size = p.cap * sz k) ∧
      (own = false → xs ≠ [] → Imm p.blk)

structure Rel (m : Nat → Place) (Imm : Nat → Prop) (H : VH) (w : World) : Prop where
  hold : ∀ b vb, H b = some vb → Hold m Imm w (m b) vb
  dist : ∀ b b' vb vb', H b = some vb → H b' = some vb' → Own (m b) vb → Own (m b') vb' → b ≠ b' → (m b).blk ≠ (m b').blk
  apart : ∀ b vb, H b = some vb → Own (m b) vb → ¬ Imm (m b).blk
  imm : ∀ r, Imm r → r < w.heap.size

/-- What may be written: new blocks, and those of H's rows and variables. -/
def Zone (m : Nat → Place) (H : VH) (w : World) (r : Nat) : Prop := w.heap.size ≤ r ∨ ∃ b vb, H b = some vb ∧ Own (m b) vb ∧ (m b).blk = r

def upd (u : List (Nat × Option VB)) (H : VH) : VH := fun b => match lkN u b with
  | some v => v
  | none => H b

structure Calm (w w' : World) : Prop where
  os : w'.os = w.os
  tape : w'.tape = w.tape
  output : w'.output = w.output
  size : w.heap.size ≤ w'.heap.size

structure Step (m : Nat → Place) (Imm : Nat → Prop) (H : VH) (w : World) (m' : Nat → Place) (Imm' : Nat → Prop) (H' : VH) (w' : World) (key : Nat) : Prop where
  rel : Rel m' Imm' H' w'
  same : ∀ b, inRange key b = false → m' b = m b
  mono : ∀ r, Imm r → Imm' r
  zone : ∀ r, Imm' r → Imm r ∨ Zone m H w r
  own : ∀ b vb, H' b = some vb → Own (m' b) vb → Zone m H w (m' b).blk
  keep : ∀ r, r < w.heap.size → ¬ Zone m H w r → w'.heap[r]? = w.heap[r]?
  calm : Calm w w'

theorem Calm.refl (w : World) : Calm w w := ⟨rfl, rfl, rfl, Nat.le_refl _⟩
theorem Calm.trans {a b c : World} (h : Calm a b) (k : Calm b c) : Calm a c := ⟨k.os.trans h.os, k.tape.trans h.tape, k.output.trans h.output, Nat.le_trans h.size k.size⟩

theorem Vs.length {m : Nat → Place} : ∀ {cs : List SV} {vs : List Value}, Vs m cs vs → cs.length = vs.length
  | _, _, .nil => rfl
  | _, _, .cons _ _ _ _ _ h => by simp [Vs.length h]
theorem Vs.append {m : Nat → Place} {c d : List SV} {v u : List Value} (h : Vs m c v) (k : Vs m d u) : Vs m (c ++ d) (v ++ u) := by
  induction c generalizing v with
  | nil => cases h; simpa using k
  | cons s l ih => cases h with | cons _ x _ r hx hr => exact .cons _ _ _ _ hx (ih hr)
theorem Vs.take {m : Nat → Place} {c : List SV} {v : List Value} (h : Vs m c v) (n : Nat) : Vs m (c.take n) (v.take n) := by
  induction c generalizing v n with
  | nil => cases h; simp; exact .nil
  | cons s l ih =>
    cases h with
    | cons _ x _ r hx hr =>
      cases n with
      | zero => simp; exact .nil
      | succ n => simp only [List.take_succ_cons]; exact .cons _ _ _ _ hx (ih hr n)
theorem Vs.drop {m : Nat → Place} {c : List SV} {v : List Value} (h : Vs m c v) (n : Nat) : Vs m (c.drop n) (v.drop n) := by
  induction c generalizing v n with
  | nil => cases h; simp; exact .nil
  | cons s l ih =>
    cases h with
    | cons _ x _ r hx hr =>
      cases n with
      | zero => exact .cons _ _ _ _ hx hr
      | succ n => simp only [List.drop_succ_cons]; exact ih hr n
theorem Vs.get {m : Nat → Place} {c : List SV} {v : List Value} (h : Vs m c v) {i : Nat} {s : SV} (hi : c[i]? = some s) : ∃ x, v[i]? = some x ∧ V m s x := by
  induction c generalizing v i with
  | nil => simp at hi
  | cons s' l ih =>
    cases h with
    | cons _ x _ r hx hr =>
      cases i with
      | zero => simp at hi; subst hi; exact ⟨x, rfl, hx⟩
      | succ i => simp at hi; simpa using ih hr hi
theorem Vs.splice {m : Nat → Place} {c d : List SV} {v u : List Value} (h : Vs m c v) (k : Vs m d u) (j : Nat) : Vs m (splice c j d) (splice v j u) := by
  unfold Sx.splice
  rw [k.length]
  exact ((h.take j).append k).append (h.drop _)

theorem lenN_eq {α : Type} : ∀ l : List α, lenN l = l.length
  | [] => rfl
  | _ :: l => by simp [lenN, lenN_eq l]
theorem keysOf_eq {α : Type} : ∀ l : List (Nat × α), keysOf l = l.map (·.1)
  | [] => rfl
  | (_, _) :: l => by simp [keysOf, keysOf_eq l]
theorem beqN (a b : Nat) : Nat.beq a b = decide (a = b) := by
  by_cases h : a = b
  · subst h; simp
  · rw [decide_eq_false h]
    cases e : Nat.beq a b with
    | false => rfl
    | true => exact absurd (Nat.eq_of_beq_eq_true e) h
theorem memN_iff (a : Nat) : ∀ l : List Nat, memN a l = true ↔ a ∈ l
  | [] => by simp [memN]
  | b :: l => by
    unfold memN
    rw [beqN]
    by_cases h : a = b
    · simp [h]
    · simp [h, memN_iff a l]
theorem lkN_some {α : Type} {l : List (Nat × α)} {b : Nat} {v : α} (h : lkN l b = some v) : (b, v) ∈ l := by
  induction l with
  | nil => simp [lkN] at h
  | cons p l ih =>
    obtain ⟨a, u⟩ := p
    unfold lkN at h
    rw [beqN] at h
    by_cases e : a = b
    · simp [e] at h; subst e; subst h; exact List.mem_cons_self
    · simp [e] at h; exact List.mem_cons_of_mem _ (ih h)
theorem lkN_none {α : Type} {l : List (Nat × α)} {b : Nat} : lkN l b = none ↔ ∀ p ∈ l, p.1 ≠ b := by
  induction l with
  | nil => simp [lkN]
  | cons p l ih =>
    obtain ⟨a, u⟩ := p
    unfold lkN
    rw [beqN]
    by_cases e : a = b
    · simp [e]
    · simp [ih, e]
theorem lkN_append {α : Type} (l r : List (Nat × α)) (b : Nat) : lkN (l ++ r) b = match lkN l b with | some v => some v | none => lkN r b := by
  induction l with
  | nil => rfl
  | cons p l ih =>
    obtain ⟨a, u⟩ := p
    simp only [List.cons_append, lkN]
    cases Nat.beq a b
    · simpa using ih
    · rfl
theorem inRange_iff (key b : Nat) : inRange key b = true ↔ key ≤ b ∧ b < key + stride := by
  unfold inRange Nat.blt
  rw [Bool.and_eq_true, Nat.ble_eq, Nat.ble_eq]
  omega

/-- A value stands for the same while its numbers keep their places. -/
theorem V.moved {m m' : Nat → Place} {s : SV} {x : Value} (h : V m s x) (hm : ∀ b ∈ s.ids, m' b = m b) : V m' s x := by
  refine V.rec (motive_1 := fun s x _ => (∀ b ∈ s.ids, m' b = m b) → V m' s x) (motive_2 := fun l r _ => (∀ b ∈ idsL l, m' b = m b) → Vs m' l r)
    (fun x _ => .undef x) (fun x _ => .val x) ?_ ?_ ?_ ?_ ?_ ?_ ?_ ?_ ?_ ?_ ?_ h hm
  · intro b j hb
    have e := hb b (by simp [SV.ids]); rw [← e]; exact .ptr b j
  · intro b i j hi hb
    have e := hb b (by simp [SV.ids]); rw [← e]; exact .elt b i j hi
  · intro b c h1 h2 hb
    have e := hb b (by simp [SV.ids]); rw [← e] at h1 h2 ⊢; exact .slF b c h1 h2
  · intro b h1 hb
    have e := hb b (by simp [SV.ids]); rw [← e] at h1; exact .slF0 b h1
  · intro b i n c h1 h2 h3 hb
    have e := hb b (by simp [SV.ids]); rw [← e] at h2 h3 ⊢; exact .slP b i n c h1 h2 h3
  · intro b i a _; exact .slP0 b i a
  · intro cs vs _ ih hb; exact .agg cs vs (ih (by simpa [SV.ids] using hb))
  · intro cs vs _ ih hb; exact .tup cs vs (ih (by simpa [SV.ids] using hb))
  · intro f a c va vc _ _ ih1 ih2 hb
    exact .fn f a c va vc (ih1 (fun b h => hb b (by simp [SV.ids, h]))) (ih2 (fun b h => hb b (by simp [SV.ids, h])))
  · intro _; exact .nil
  · intro s x l r _ _ ih1 ih2 hb
    exact .cons s x l r (ih1 (fun b h => hb b (by simp [idsL, h]))) (ih2 (fun b h => hb b (by simp [idsL, h])))
theorem Vs.moved {m m' : Nat → Place} {l : List SV} {r : List Value} (h : Vs m l r) (hm : ∀ b ∈ idsL l, m' b = m b) : Vs m' l r := by
  induction l generalizing r with
  | nil => cases h; exact .nil
  | cons s l ih =>
    cases h with
    | cons _ x _ r hx hr => exact .cons _ _ _ _ (hx.moved fun b hb => hm b (by simp [idsL, hb])) (ih hr fun b hb => hm b (by simp [idsL, hb]))

theorem cell_of_block {w w' : World} {a : Addr} (h : w'.heap[a.block]? = w.heap[a.block]?) : w'.cell? a = w.cell? a := by
  unfold World.cell?; rw [h]

/-- What lies in memory that nobody writes stays. -/
theorem CV.stays {Imm Imm' : Nat → Prop} {w w' : World} (hi : ∀ r, Imm r → Imm' r) (hw : ∀ r, Imm r → w'.heap[r]? = w.heap[r]?) {c : CS} {v : Value} (h : CV Imm w c v) : CV Imm' w' c v := by
  induction h with
  | v x => exact .v x
  | s k ys blk off c f hb hc hl _ ih =>
    refine .s k ys blk off c f (fun h => hi _ (hb h)) hc (fun i j e h1 h2 => (cell_of_block (w := w) (hw _ (hb ?_))).trans (hl i j e h1 h2)) ih
    rintro rfl; simp at h1
  | s0 k => exact .s0 k
theorem Reads.stays {Imm Imm' : Nat → Prop} {w w' : World} (hi : ∀ r, Imm r → Imm' r) (hw : ∀ r, Imm r → w'.heap[r]? = w.heap[r]?) {p : Place} {k : RK} {xs : List (El k)} (hp : xs ≠ [] → w'.heap[p.blk]? = w.heap[p.blk]?) (h : Reads Imm w p k xs) : Reads Imm' w' p k xs := by
  intro i j e h1 h2
  obtain ⟨v, h3, h4⟩ := h i j e h1 h2
  refine ⟨v, ?_, h4.stays hi hw⟩
  rw [cell_of_block (w := w) (hp (by intro e; subst e; simp at h1))]
  exact h3
theorem Hold.stays {m m' : Nat → Place} {Imm Imm' : Nat → Prop} {w w' : World} {p : Place} {vb : VB} (h : Hold m Imm w p vb) (hi : ∀ r, Imm r → Imm' r) (hw : ∀ r, Imm r → w'.heap[r]? = w.heap[r]?)
    (hp : Own p vb → w'.heap[p.blk]? = w.heap[p.blk]?) (hm : ∀ cs, vb = .cells cs → ∀ b ∈ idsL cs, m' b = m b) : Hold m' Imm' w' p vb := by
  cases vb with
  | cells cs =>
    obtain ⟨h0, arr, t, h1, h2⟩ := h
    exact ⟨h0, arr, t, (hp trivial).trans h1, h2.moved (hm cs rfl)⟩
  | row own k xs =>
    obtain ⟨h1, h2, h3, h4, h5, h6⟩ := h
    refine ⟨h1, h2, h3, h4.stays hi hw ?_, ?_, fun a b => hi _ (h6 a b)⟩
    · intro hne
      cases own with
      | false => exact hw _ (h6 rfl hne)
      | true => exact hp (by show 0 < p.cap; cases xs with | nil => exact absurd rfl hne | cons a l => simp at h3; omega)
    · intro ho hc
      subst ho
      obtain ⟨h7, arr, t, h8, h9⟩ := h5 rfl hc
      exact ⟨h7, arr, t, (hp hc).trans h8, h9⟩

theorem Hold.lt {m : Nat → Place} {Imm : Nat → Prop} {w : World} {p : Place} {vb : VB} (h : Hold m Imm w p vb) (ho : Own p vb) : p.blk < w.heap.size := by
  cases vb with
  | cells cs => obtain ⟨_, arr, t, h1, _⟩ := h; exact (Array.getElem?_eq_some_iff.1 h1).1
  | row own k xs =>
    cases own with
    | false => exact absurd ho (by simp [Own])
    | true => obtain ⟨_, _, _, _, h5, _⟩ := h; obtain ⟨_, arr, t, h8, _⟩ := h5 rfl ho; exact (Array.getElem?_eq_some_iff.1 h8).1
end Go.Proofs.Ytncdakkigkmfjaa.Sx
