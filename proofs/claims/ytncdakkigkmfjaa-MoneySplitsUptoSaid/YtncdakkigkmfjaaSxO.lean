import Derived.Test.YtncdakkigkmfjaaSxC
import Derived.Deep.MidRow
import Derived.Laws.CopyRow
/-! Operations on memory: what the evaluator says of each is what the model does. -/
namespace Go.Proofs.Ytncdakkigkmfjaa.Sx
open Go
set_option linter.unusedVariables false
set_option linter.unusedSimpArgs false

inductive Holds : R → SV → List (Nat × Option VB) → Prop
  | mk (s : SV) (u : List (Nat × Option VB)) : Holds (.ok s u) s u
  | mkVc (c : Prop) (s : SV) (u : List (Nat × Option VB)) (h : c) : Holds (.vc c s u) s u
  | yes (t : Bool) (a b : R) (s : SV) (u : List (Nat × Option VB)) (ht : t = true) (h : Holds a s u) : Holds (.br t a b) s u
  | no (t : Bool) (a b : R) (s : SV) (u : List (Nat × Option VB)) (ht : t = false) (h : Holds b s u) : Holds (.br t a b) s u
theorem Holds.ok {s s' : SV} {u u' : List (Nat × Option VB)} (h : Holds (.ok s' u') s u) : s' = s ∧ u' = u := by
  cases h; exact ⟨rfl, rfl⟩
theorem Holds.vc {c : Prop} {s s' : SV} {u u' : List (Nat × Option VB)} (h : Holds (.vc c s' u') s u) : c ∧ s' = s ∧ u' = u := by
  cases h; exact ⟨by assumption, rfl, rfl⟩
theorem Holds.fail {why : String} {s : SV} {u : List (Nat × Option VB)} (h : Holds (.fail why) s u) : False := by cases h
theorem Holds.br {t : Bool} {a b : R} {s : SV} {u : List (Nat × Option VB)} (h : Holds (.br t a b) s u) : (t = true ∧ Holds a s u) ∨ (t = false ∧ Holds b s u) := by
  cases h
  · exact .inl ⟨by assumption, by assumption⟩
  · exact .inr ⟨by assumption, by assumption⟩

variable {P : Program} {T : TT} {m : Nat → Place} {Imm : Nat → Prop} {H : VH} {w : World} {key : Nat} {s : SV} {u : List (Nat × Option VB)}

/-- The operation comes to a value that s stands for, and to the blocks that u tells. -/
def Does (P : Program) (sem : Sem Value) (m : Nat → Place) (Imm : Nat → Prop) (H : VH) (w : World) (key : Nat) (s : SV) (u : List (Nat × Option VB)) : Prop :=
  ∃ v w' m' Imm', sem.run P w = .ok v w' ∧ V m' s v ∧ Step m Imm H w m' Imm' (upd u H) w' key
theorem Does.same {sem : Sem Value} {v : Value} (hR : Rel m Imm H w) (h : sem.run P w = .ok v w) (hv : V m s v) : Does P sem m Imm H w key s [] :=
  ⟨v, w, m, Imm, h, hv, .refl hR key⟩

theorem Agree.parts {t : TypeId} {ti : TI} (h : Agree P t ti) : ∃ i z, P.info? t = some i ∧ i.size = ti.size ∧ i.bytes = ti.bytes ∧ i.zero = some z ∧ z.cells.toList = ti.zero ∧ (isAggT ti = true → ∃ a, z = .agg a) := h.info
theorem run_typeInfo {t : TypeId} {i : TypeInfo} (h : P.info? t = some i) (w : World) : (typeInfo t).run P w = .ok i w := by simp [typeInfo, h]
theorem run_sizeOf' {t : TypeId} {i : TypeInfo} (h : P.info? t = some i) (w : World) : (sizeOf t).run P w = .ok i.size w := by simp [sizeOf, run_typeInfo h]
theorem run_zeroValue' {t : TypeId} {i : TypeInfo} {z : Value} (h : P.info? t = some i) (hz : i.zero = some z) (w : World) : (zeroValue t).run P w = .ok z w := by simp [zeroValue, run_typeInfo h, hz]

theorem vals (m : Nat → Place) : ∀ l : List Value, Vs m (l.map .val) l
  | [] => .nil
  | x :: l => .cons _ _ _ _ (.val x) (vals m l)
theorem idsL_vals : ∀ l : List Value, idsL (l.map .val) = []
  | [] => rfl
  | x :: l => by simp [idsL, SV.ids, idsL_vals l]

theorem ptr_new (m : Nat → Place) (b : Nat) (p : Place) (hp : p.off = 0) : V (setM m b p) (.ptr b 0) (.pointer (some ⟨p.blk, 0, none⟩)) := by
  have := V.ptr (m := setM m b p) b 0
  simpa [setM_at, hp] using this

/-- A row that is made out of cells. -/
theorem row_of (hR : Rel m Imm H w) {b : Nat} (hb : inRange key b = true) (hf : ¬ UsedIn H b) (arr : Array Value) (t : TypeId) {k : RK} {n : Nat} {cs : List CS} {xs : List (El k)} (hd : decAll k n cs = some xs)
    (hl : cs.length = arr.size) (hv : ∀ (j : Nat) (e : CS), cs[j]? = some e → ∃ v, arr.toList[j]? = some v ∧ CV Imm w e v) :
    Step m Imm H w (setM m b ⟨w.heap.size, 0, sz k, xs.length, xs.length⟩) Imm (upd [(b, some (.row true k xs))] H) (w.alloc (.cells arr t)) key := by
  obtain ⟨h1, h2⟩ := decAll_ok hd
  refine Step.newRow hR hf hb arr t k xs xs.length (Nat.le_refl _) (by omega) ?_
  intro i j e hi he
  obtain ⟨e', h3, h4⟩ := h2 i j e hi he
  obtain ⟨v, h5, h6⟩ := hv _ _ h3
  exact ⟨v, by simpa using h5, h4 _ _ _ h6⟩

theorem does_alloc (hT : TOk P T) {t : TypeId} (hR : Rel m Imm H w) (hc : Clean key H) (h : Holds (evAlloc T t key) s u) : Does P (Instr.alloc t true (.tuple #[])) m Imm H w key s u := by
  unfold evAlloc at h
  have run : ∀ {ti : TI}, Agree P t ti → ∃ z : Value, (Instr.alloc t true (.tuple #[])).run P w = .ok (.pointer (some ⟨w.heap.size, 0, none⟩)) (w.alloc (.cells z.cells t)) ∧ z.cells.toList = ti.zero := by
    intro ti ha
    obtain ⟨i, z, h1, h2, h3, h4, h5, _⟩ := ha.info
    exact ⟨z, by simp [Instr.alloc, run_zeroValue' h1 h4, newVar, newRow], h5⟩
  split at h
  · rename_i n e sz' by' z rk hi
    obtain ⟨zv, h1, h2⟩ := run (hT t _ hi)
    split at h
    · split at h
      · rename_i k _ _ xs hd
        obtain ⟨rfl, rfl⟩ := h.ok
        refine ⟨_, _, _, Imm, h1, ptr_new m key ⟨w.heap.size, 0, sz k, xs.length, xs.length⟩ rfl, ?_⟩
        refine row_of hR (inRange_self key) (hc key (inRange_self key)) zv.cells t hd ?_ ?_
        · rw [List.length_map, ← Array.length_toList, h2]
        · intro j e he
          rw [List.getElem?_map] at he
          rw [h2]
          cases hz : z[j]? with
          | none => rw [hz] at he; cases he
          | some v => rw [hz] at he; obtain rfl := Option.some.inj he; exact ⟨v, rfl, .v v⟩
      · exact h.fail.elim
    · exact h.fail.elim
  · rename_i i _ hi
    obtain ⟨rfl, rfl⟩ := h.ok
    obtain ⟨z, h1, h2⟩ := run (hT t _ hi)
    refine ⟨_, _, _, Imm, h1, ptr_new m key ⟨w.heap.size, 0, 0, 0, 0⟩ rfl, ?_⟩
    exact Step.newCells hR (hc key (inRange_self key)) (inRange_self key) z.cells t _ (by rw [h2]; exact vals m _) (by rw [idsL_vals]; simp) 0 0 0
  · exact h.fail.elim

theorem V.cells {x : SV} {v : Value} (h : V m x v) (hx : x.cells.all SV.one = true) : Vs m x.cells v.cells.toList := by
  cases h with
  | undef => simp [SV.cells, SV.one] at hx
  | val y =>
    have : v.cells = #[v] := by cases v <;> first | rfl | simp [SV.cells, SV.one] at hx
    rw [this]; exact .cons _ _ _ _ (.val v) .nil
  | agg cs vs h => exact h
  | tup cs vs h => simp [SV.cells, SV.one] at hx
  | ptr b j => exact .cons _ _ _ _ (.ptr b j) .nil
  | elt b i j h => exact .cons _ _ _ _ (.elt b i j h) .nil
  | slF b c h h' => exact .cons _ _ _ _ (.slF b c h h') .nil
  | slF0 b h => exact .cons _ _ _ _ (.slF0 b h) .nil
  | slP b i n c h h' hn => exact .cons _ _ _ _ (.slP b i n c h h' hn) .nil
  | slP0 b i a => exact .cons _ _ _ _ (.slP0 b i a) .nil
  | fn f a c va vc h h' => exact .cons _ _ _ _ (.fn f a c va vc h h') .nil
theorem V.one {x : SV} {v : Value} (h : V m x v) (hx : x.one = true) : v.oneCell' = true := by
  cases h <;> first | rfl | (simp [SV.one] at hx; done) | (cases v <;> first | rfl | simp [SV.one] at hx)
theorem Vs.one {l : List SV} {r : List Value} (h : Vs m l r) (hx : l.all SV.one = true) : ∀ v ∈ r, v.oneCell' = true := by
  induction l generalizing r with
  | nil => cases h; simp
  | cons x l ih =>
    cases h with
    | cons _ v _ r hv hr =>
      simp only [List.all_cons, Bool.and_eq_true] at hx
      intro y hy
      rcases List.mem_cons.1 hy with rfl | hy
      · exact hv.one hx.1
      · exact ih hr hx.2 y hy
theorem cells_ids (x : SV) : idsL x.cells = x.ids := by cases x <;> simp [SV.cells, SV.ids, idsL]

/-- The blocks that x names are not new ones. -/
def Old (key : Nat) (x : SV) : Prop := ∀ b ∈ x.ids, inRange key b = false
theorem Old.ne {x : SV} (h : Old key x) {b : Nat} (hb : inRange key b = true) : ∀ y ∈ idsL x.cells, y ≠ b := by
  rw [cells_ids]
  rintro y hy rfl
  rw [h y hy] at hb; cases hb

theorem not_used_upd {u : List (Nat × Option VB)} {H : VH} {b : Nat} (hu : Freezes H u) (h : ¬ UsedIn H b) : ¬ UsedIn (upd u H) b := by
  rintro (hn | ⟨b', cs', hb', hx⟩)
  · apply h
    cases e : upd u H b with
    | none => exact absurd e hn
    | some v =>
      rcases upd_cases e with hp | ⟨_, hp⟩
      · obtain ⟨k, ys, _, h2⟩ := hu _ hp
        exact .inl (by rw [h2]; simp)
      · exact .inl (by rw [hp]; simp)
  · rcases upd_cases hb' with hp | ⟨_, hp⟩
    · obtain ⟨k', ys', h5, _⟩ := hu _ hp; simp at h5
    · exact h (.inr ⟨b', cs', hp, hx⟩)

theorem does_box {t : TypeId} {x : SV} {v : Value} (hR : Rel m Imm H w) (hc : Clean key H) (hx : V m x v) (ho : Old key x) (h : Holds (evBox T t x H key) s u) : Does P (Instr.box t v) m Imm H w key s u := by
  unfold evBox at h
  have run : (Instr.box t v).run P w = .ok (.pointer (some ⟨w.heap.size, 0, none⟩)) (w.alloc (.cells v.cells t)) := by simp [Instr.box, newVar, newRow]
  cases hone : x.cells.all SV.one with
  | false => rw [hone] at h; exact h.fail.elim
  | true =>
    rw [hone] at h
    simp only [cond_true] at h
    have hvs := hx.cells hone
    split at h
    · split at h
      · split at h
        · rename_i k _ _ cs u' hcs
          split at h
          · rename_i _ xs hd
            obtain ⟨rfl, rfl⟩ := h.ok
            obtain ⟨h1, h2, h3⟩ := toCS_ok hR hcs hvs
            have hfr := Step.freeze hR h2 key
            refine ⟨_, _, _, ImmF m Imm u', run, ptr_new m key ⟨w.heap.size, 0, sz k, xs.length, xs.length⟩ rfl, ?_⟩
            have := hfr.trans (row_of hfr.rel (inRange_self key) (not_used_upd h2 (hc key (inRange_self key))) v.cells t hd (by rw [h1, Array.length_toList]) h3)
            rwa [← upd_append] at this
          · exact h.fail.elim
        · exact h.fail.elim
      · exact h.fail.elim
    · rename_i i _ hi
      cases hb : Nat.beq (lenN x.cells) i.size with
      | false => rw [hb] at h; exact h.fail.elim
      | true =>
        rw [hb] at h
        obtain ⟨rfl, rfl⟩ := h.ok
        refine ⟨_, _, _, Imm, run, ptr_new m key ⟨w.heap.size, 0, 0, 0, 0⟩ rfl, ?_⟩
        exact Step.newCells hR (hc key (inRange_self key)) (inRange_self key) v.cells t _ hvs (ho.ne (inRange_self key)) 0 0 0
    · exact h.fail.elim

theorem run_load_range {t : TypeId} {ti : TI} (hA : Agree P t ti) {b o : Nat} {lst : List Value} (hl : lst.length = ti.size) (hr : ∀ (j : Nat) (v : Value), lst[j]? = some v → w.cell? ⟨b, o + j, none⟩ = some v) :
    (isAggT ti = true → (Instr.loadAt t (.pointer (some ⟨b, o, none⟩))).run P w = .ok (.agg lst.toArray) w) ∧
    (isAggT ti = false → ∀ x, lst = [x] → (Instr.loadAt t (.pointer (some ⟨b, o, none⟩))).run P w = .ok x w) := by
  obtain ⟨d, hu, hagg⟩ := hA.desc.agg
  obtain ⟨i, z, h1, h2, _⟩ := hA.info
  constructor
  · intro ha
    have h3 : (loadCells ⟨b, o, none⟩ i.size).run P w = .ok lst.toArray w := by
      rw [h2, ← hl]
      exact run_loadCells_list (P := P) w ⟨b, o, none⟩ lst (fun j v hv => by rw [Addr.add_mid]; exact hr j v hv)
    simp [Instr.loadAt, Instr.sureAddr, loadVar, hagg, ha, run_sizeOf' h1, h3]
  · rintro ha x rfl
    have := hr 0 x rfl
    simp only [Nat.add_zero] at this
    simp [Instr.loadAt, Instr.sureAddr, loadVar, hagg, ha, this]
theorem one_ok {l : List SV} {a : Bool} {u' : List (Nat × Option VB)} (h : Holds (one l a u') s u) : u = u' ∧ ((a = true ∧ s = .agg l) ∨ (a = false ∧ l = [s])) := by
  unfold one at h
  split at h
  · obtain ⟨rfl, rfl⟩ := h.ok; exact ⟨rfl, .inl ⟨rfl, rfl⟩⟩
  · obtain ⟨rfl, rfl⟩ := h.ok; exact ⟨rfl, .inr ⟨rfl, rfl⟩⟩
  · exact h.fail.elim
theorem guarded_ok {c : Prop} : ∀ {r : R}, Holds (guarded c r) s u → c ∧ Holds r s u
  | .ok _ _, h => by
    obtain ⟨h1, h2, h3⟩ := Holds.vc h
    rw [← h2, ← h3]; exact ⟨h1, .mk _ _⟩
  | .vc d _ _, h => by
    obtain ⟨h1, h2, h3⟩ := Holds.vc h
    rw [← h2, ← h3]; exact ⟨h1.1, .mkVc _ _ _ h1.2⟩
  | .br t a b, h => by
    rcases Holds.br (t := t) (a := guarded c a) (b := guarded c b) h with ⟨ht, h⟩ | ⟨ht, h⟩
    · obtain ⟨h1, h2⟩ := guarded_ok h; exact ⟨h1, .yes _ _ _ _ _ ht h2⟩
    · obtain ⟨h1, h2⟩ := guarded_ok h; exact ⟨h1, .no _ _ _ _ _ ht h2⟩
  | .fail w, h => (Holds.fail (why := w) h).elim
/-- What is read of cells that l stands for. -/
theorem loaded {t : TypeId} {ti : TI} (hA : Agree P t ti) {b o : Nat} {l : List SV} {lst : List Value} {m' : Nat → Place} (hl : lst.length = ti.size) (hr : ∀ (j : Nat) (v : Value), lst[j]? = some v → w.cell? ⟨b, o + j, none⟩ = some v)
    (hv : Vs m' l lst) (h : (isAggT ti = true ∧ s = .agg l) ∨ (isAggT ti = false ∧ l = [s])) : ∃ v, (Instr.loadAt t (.pointer (some ⟨b, o, none⟩))).run P w = .ok v w ∧ V m' s v := by
  obtain ⟨h1, h2⟩ := run_load_range (w := w) hA hl hr
  rcases h with ⟨ha, rfl⟩ | ⟨ha, rfl⟩
  · exact ⟨_, h1 ha, .agg _ _ (by simpa using hv)⟩
  · cases hv with
    | cons _ v _ r hx hr2 => cases hr2; exact ⟨v, h2 ha v rfl, hx⟩
theorem cell_row {arr : Array Value} {t : TypeId} {b : Nat} (hh : w.heap[b]? = some (.cells arr t (0, 0))) (o : Nat) : w.cell? ⟨b, o, none⟩ = arr.toList[o]? := by
  simp [World.cell?, hh]

/-- The cells of one element, read. -/
theorem elem_cells {p : Place} {k : RK} {xs : List (El k)} (h : Reads Imm w p k xs) {i : Nat} (hi : i < xs.length) : ∃ lst : List Value, lst.length = sz k ∧ (∀ (j : Nat) (v : Value), lst[j]? = some v → w.cell? ⟨p.blk, p.off + (i * sz k + j), none⟩ = some v) ∧
    ∀ (j : Nat) (e : CS), (enc k (xs.getD i (zK k)))[j]? = some e → ∃ v, lst[j]? = some v ∧ CV Imm w e v := by
  have g : ∀ j, j < sz k → ∃ v e, (enc k (xs.getD i (zK k)))[j]? = some e ∧ w.cell? ⟨p.blk, p.off + (i * sz k + j), none⟩ = some v ∧ CV Imm w e v := by
    intro j hj
    have hlt : j < (enc k (xs.getD i (zK k))).length := by rw [enc_length]; exact hj
    obtain ⟨v, h1, h2⟩ := h i j _ hi (List.getElem?_eq_getElem hlt)
    exact ⟨v, _, List.getElem?_eq_getElem hlt, h1, h2⟩
  refine ⟨(List.range (sz k)).map fun j => (w.cell? ⟨p.blk, p.off + (i * sz k + j), none⟩).getD undef, by simp, ?_, ?_⟩
  · intro j v hv
    rw [List.getElem?_map] at hv
    by_cases hj : j < sz k
    · rw [List.getElem?_range hj] at hv
      obtain ⟨v', e, _, h2, _⟩ := g j hj
      simp [h2] at hv
      rw [h2, hv]
    · rw [List.getElem?_eq_none (by simp; omega)] at hv; cases hv
  · intro j e he
    have hj : j < sz k := by have := (List.getElem?_eq_some_iff.1 he).1; rwa [enc_length] at this
    obtain ⟨v, e', h1, h2, h3⟩ := g j hj
    rw [he] at h1
    obtain rfl := Option.some.inj h1
    refine ⟨v, ?_, h3⟩
    rw [List.getElem?_map, List.getElem?_range hj]
    simp [h2]

theorem free_sub {key j : Nat} (hc : Clean key H) (hj : 1 + j < stride) : inRange key (key + 1 + j) = true ∧ ¬ UsedIn H (key + 1 + j) := by
  have : inRange key (key + 1 + j) = true := (inRange_iff _ _).2 ⟨by omega, by omega⟩
  exact ⟨this, hc _ this⟩

theorem flat_length (k : RK) (xs : List (El k)) : (xs.flatMap (enc k)).length = xs.length * sz k := by
  induction xs with
  | nil => simp
  | cons x xs ih => rw [List.flatMap_cons, List.length_append, enc_length, ih, List.length_cons, Nat.add_mul]; omega
/-- All cells of a row, one element behind the other. -/
theorem row_cells {p : Place} {k : RK} : ∀ {xs : List (El k)} {o : Nat}, (∀ i j e, i < xs.length → (enc k (xs.getD i (zK k)))[j]? = some e → ∃ v, w.cell? ⟨p.blk, o + (i * sz k + j), none⟩ = some v ∧ CV Imm w e v) →
    ∃ lst : List Value, lst.length = xs.length * sz k ∧ (∀ (j : Nat) (v : Value), lst[j]? = some v → w.cell? ⟨p.blk, o + j, none⟩ = some v) ∧
      ∀ (j : Nat) (e : CS), (xs.flatMap (enc k))[j]? = some e → ∃ v, lst[j]? = some v ∧ CV Imm w e v := by
  intro xs
  induction xs with
  | nil => intro o h; exact ⟨[], by simp, by simp, by simp⟩
  | cons x xs ih =>
    intro o h
    obtain ⟨l0, a1, a2, a3⟩ := elem_cells (p := ⟨p.blk, o, 0, 0, 0⟩) (Imm := Imm) (w := w) (k := k) (xs := x :: xs) (fun i j e h1 h2 => h i j e h1 h2) (i := 0) (by simp)
    obtain ⟨l1, b1, b2, b3⟩ := ih (o := o + sz k) (fun i j e h1 h2 => by
      obtain ⟨v, h3, h4⟩ := h (i + 1) j e (by simpa using h1) (by simpa using h2)
      refine ⟨v, ?_, h4⟩
      rw [← h3, Nat.add_mul]
      congr 2
      omega)
    simp only [List.getD_cons_zero] at a3
    refine ⟨l0 ++ l1, by rw [List.length_append, a1, b1, List.length_cons, Nat.add_mul]; omega, ?_, ?_⟩
    · intro j v hj
      by_cases hlt : j < sz k
      · rw [List.getElem?_append_left (by omega)] at hj
        have := a2 j v hj
        simpa using this
      · rw [List.getElem?_append_right (by omega), a1] at hj
        have := b2 _ v hj
        rw [← this]
        congr 2
        omega
    · intro j e hj
      rw [List.flatMap_cons] at hj
      by_cases hlt : j < sz k
      · rw [List.getElem?_append_left (by rw [enc_length]; exact hlt)] at hj
        obtain ⟨v, h5, h6⟩ := a3 j e hj
        exact ⟨v, by rw [List.getElem?_append_left (by omega)]; exact h5, h6⟩
      · rw [List.getElem?_append_right (by rw [enc_length]; omega), enc_length] at hj
        obtain ⟨v, h5, h6⟩ := b3 _ e hj
        exact ⟨v, by rw [List.getElem?_append_right (by omega), a1]; exact h5, h6⟩

theorem does_load (hT : TOk P T) {t : TypeId} {a : SV} {va : Value} (hR : Rel m Imm H w) (hc : Clean key H) (ha : V m a va) (h : Holds (evLoad T t a H key) s u) : Does P (Instr.loadAt t va) m Imm H w key s u := by
  unfold evLoad at h
  split at h
  · exact h.fail.elim
  · rename_i ti hti
    have hA := hT t ti hti
    split at h
    · rename_i b j
      cases ha
      split at h
      · rename_i cs hb
        obtain ⟨h0, arr, ty, h1, h2⟩ := hR.hold b _ hb
        simp only at h
        cases hq : Nat.beq (lenN ((cs.drop j).take ti.size)) ti.size with
        | false => rw [hq] at h; exact h.fail.elim
        | true =>
          rw [hq] at h
          have hl := Nat.eq_of_beq_eq_true hq
          rw [lenN_eq] at hl
          obtain ⟨rfl, h3⟩ := one_ok h
          have hvs := (h2.drop j).take ti.size
          obtain ⟨v, h4, h5⟩ := loaded (w := w) hA (b := (m b).blk) (o := (m b).off + j) (by rw [← hvs.length]; exact hl) (fun j' v hv => by
            rw [h0, Nat.zero_add, cell_row h1]
            rw [List.getElem?_take] at hv
            split at hv
            · rwa [List.getElem?_drop] at hv
            · cases hv) hvs h3
          exact .same hR h4 h5
      · rename_i own k xs hb
        obtain ⟨p1, p2, p3, p4, _, _⟩ := hR.hold b _ hb
        split at h
        · rename_i n _ hd
          split at h
          rename_i l u' hf
          cases hq : (Nat.beq (lenN xs) n && Nat.beq (lenN l) ti.size && Nat.blt (lenN l + 1) 64) with
          | false => rw [hq] at h; exact h.fail.elim
          | true =>
            rw [hq] at h
            obtain ⟨rfl, rfl⟩ := h.ok
            simp only [Bool.and_eq_true, beqN, decide_eq_true_eq, lenN_eq, Nat.blt, Nat.ble_eq] at hq
            obtain ⟨⟨q1, q2⟩, q3⟩ := hq
            obtain ⟨⟨f1, _⟩, _⟩ := fromCS_keys hf
            obtain ⟨lst, l1, l2, l3⟩ := row_cells (Imm := Imm) (w := w) (p := m b) (k := k) (xs := xs) (o := (m b).off) (fun i j e h1 h2 => p4 i j e h1 h2)
            have hlen : (xs.flatMap (enc k)).length = lst.length := by rw [l1, flat_length]
            obtain ⟨m', g1, g2, _⟩ := fromCS_ok (key := key) hf hR (fun j hj => free_sub hc (by unfold stride; omega)) hlen l3
            have hagg : isAggT ti = true := by unfold isAggT; rw [hd]
            obtain ⟨v, h4, h5⟩ := loaded (P := P) (w := w) hA (b := (m b).blk) (o := (m b).off + 0) (lst := lst) (by rw [← hlen, ← f1, q2]) (fun j' v hv => by simpa using l2 j' v hv) g1 (.inl ⟨hagg, rfl⟩)
            exact ⟨v, w, m', Imm, h4, h5, g2⟩
        · exact h.fail.elim
      · exact h.fail.elim
    · rename_i b i j
      cases ha with
      | elt _ _ _ hi0 =>
      split at h
      · rename_i own k xs hb
        obtain ⟨p1, p2, p3, p4, _, _⟩ := hR.hold b _ hb
        simp only at h
        generalize hL : ((enc k (xs.getD i.toNat (zK k))).drop j).take ti.size = L at h
        cases hq : Nat.beq (lenN L) ti.size with
        | false => rw [hq] at h; exact h.fail.elim
        | true =>
          rw [hq] at h
          simp only [cond_true] at h
          have hl := Nat.eq_of_beq_eq_true hq
          rw [lenN_eq] at hl
          obtain ⟨l, u', hf⟩ : ∃ l u', fromCS (key + 1) L = (l, u') := ⟨_, _, rfl⟩
          rw [hf] at h
          obtain ⟨⟨_, hi⟩, h⟩ := guarded_ok h
          obtain ⟨rfl, h3⟩ := one_ok h
          obtain ⟨lst, l1, l2, l3⟩ := elem_cells p4 (i := i.toNat) (by omega)
          have hLen : L.length ≤ 32 := by rw [← hL]; have := sz_le k; simp [enc_length]; omega
          have hlen : L.length = ((lst.drop j).take ti.size).length := by rw [← hL]; simp [enc_length, l1]
          obtain ⟨m', g1, g2, _⟩ := fromCS_ok (key := key) hf hR (fun j hj => free_sub hc (by unfold stride; omega)) hlen (by
            intro j' e he
            rw [← hL, List.getElem?_take] at he
            split at he
            · rename_i hlt
              rw [List.getElem?_drop] at he
              obtain ⟨v, h5, h6⟩ := l3 _ e he
              exact ⟨v, by rw [List.getElem?_take, if_pos hlt, List.getElem?_drop]; exact h5, h6⟩
            · cases he)
          obtain ⟨v, h4, h5⟩ := loaded (P := P) (w := w) hA (b := (m b).blk) (o := (m b).off + (i.toNat * (m b).sz + j)) (by rw [← hlen]; exact hl) (fun j' v hv => by
            rw [List.getElem?_take] at hv
            split at hv
            · rw [List.getElem?_drop] at hv
              rw [← l2 _ v hv, p1]
              congr 2
              omega
            · cases hv) g1 h3
          exact ⟨v, w, m', Imm, h4, h5, g2⟩
      · exact h.fail.elim
    · exact h.fail.elim

theorem setRow_other {w : World} {g r : Nat} {c : Array Value} (h : r ≠ g) : (w.setRow g c).heap[r]? = w.heap[r]? := by
  simp only [World.setRow, Array.getElem?_modify]
  rw [if_neg (fun e => h e.symm)]
theorem calm_setRow (w : World) (g : Nat) (c : Array Value) : Calm w (w.setRow g c) := ⟨rfl, rfl, rfl, by simp [World.setRow]⟩

theorem run_storeAt {t : TypeId} {ti : TI} (hA : Agree P t ti) {b o : Nat} {arr : Array Value} {ty : TypeId} {v : Value} (hh : w.heap[b]? = some (.cells arr ty (0, 0))) (hs : v.cells.size = ti.size) (hf : o + ti.size ≤ arr.size)
    (h1 : ∀ x ∈ v.cells.toList, x.oneCell' = true) :
    (Instr.storeAt t (.pointer (some ⟨b, o, none⟩)) v).run P w = .ok () (w.setRow b (splice arr.toList o v.cells.toList).toArray) := by
  obtain ⟨i, z, h2, h3, _⟩ := hA.info
  have := run_storeCells_at (P := P) b o ty v.cells.toList 0 arr w hh (by simp; omega) h1
  simp [Instr.storeAt, Instr.sureAddr, storeVar, run_sizeOf' h2, h3, hs, this, splice]

theorem splice_length {α : Type} {l r : List α} {j : Nat} (h : j + r.length ≤ l.length) : (splice l j r).length = l.length := by
  simp [splice]; omega
theorem splice_get {α : Type} {l r : List α} {j : Nat} (h : j + r.length ≤ l.length) (i : Nat) : (splice l j r)[i]? = if j ≤ i ∧ i < j + r.length then r[i - j]? else l[i]? := by
  unfold splice
  by_cases h1 : i < j
  · rw [List.getElem?_append_left (by simp; omega), List.getElem?_append_left (by simp; omega), List.getElem?_take, if_pos h1, if_neg (by omega)]
  · by_cases h2 : i < j + r.length
    · rw [List.getElem?_append_left (by simp; omega), List.getElem?_append_right (by simp; omega), if_pos ⟨by omega, h2⟩]
      congr 1
      simp; omega
    · rw [List.getElem?_append_right (by simp; omega), if_neg (by omega), List.getElem?_drop]
      congr 1
      simp; omega

theorem freeze_own {u' : List (Nat × Option VB)} (hf : Freezes H u') {b : Nat} {vb : VB} (hb : H b = some vb) : upd u' H b = some vb ∨ ∃ k ys, vb = .row true k ys ∧ upd u' H b = some (.row false k ys) := by
  unfold upd
  cases e : lkN u' b with
  | none => exact .inl hb
  | some q =>
    obtain ⟨k, ys, h1, h2⟩ := hf _ (lkN_some e)
    simp only at h1 h2 ⊢
    rw [hb] at h2
    exact .inr ⟨k, ys, Option.some.inj h2, h1⟩
end Go.Proofs.Ytncdakkigkmfjaa.Sx
