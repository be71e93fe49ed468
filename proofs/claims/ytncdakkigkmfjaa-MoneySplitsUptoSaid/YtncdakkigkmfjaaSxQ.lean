import Derived.Test.YtncdakkigkmfjaaSxP
import Derived.Laws.Tables
/-! Values that are built, compared, indexed, cut. -/
namespace Go.Proofs.Ytncdakkigkmfjaa.Sx
open Go
set_option linter.unusedVariables false
set_option linter.unusedSimpArgs false

variable {P : Program} {T : TT} {m : Nat → Place} {Imm : Nat → Prop} {H : VH} {w : World} {key : Nat} {s : SV} {u : List (Nat × Option VB)}

theorem foldl_splice (off : Nat) : ∀ (l : List Value) (k : Nat) (cs : Array Value), off + k + l.length ≤ cs.size →
    ((l.zipIdx k).foldl (fun cs (p : Value × Nat) => cs.setIfInBounds (off + p.2) p.1) cs).toList = splice cs.toList (off + k) l := by
  intro l
  induction l with
  | nil => intro k cs _; simp [splice]
  | cons x l ih =>
    intro k cs h
    simp only [List.length_cons] at h
    rw [List.zipIdx_cons, List.foldl_cons, ih (k + 1) _ (by simp; omega)]
    rw [Array.toList_setIfInBounds]
    apply List.ext_getElem?
    intro i
    have h1 : off + (k + 1) + l.length ≤ (cs.toList.set (off + k) x).length := by simp; omega
    have h2 : off + k + (x :: l).length ≤ cs.toList.length := by simp; omega
    rw [splice_get h1, splice_get h2]
    by_cases a : off + (k + 1) ≤ i ∧ i < off + (k + 1) + l.length
    · rw [if_pos a, if_pos (by simp; omega)]
      rw [show i - (off + k) = (i - (off + (k + 1))) + 1 by omega, List.getElem?_cons_succ]
    · rw [if_neg a]
      by_cases b : i = off + k
      · subst b; rw [if_pos (by simp), List.getElem?_set_self (by simp; omega)]; simp
      · rw [if_neg (by simp; omega), List.getElem?_set_ne (by omega)]

theorem fill_ok {place : Nat → Option (Nat × Nat)} : ∀ {ps : List (Nat × SV)} {pv : List (Nat × Value)} {cs cs' : List SV} {arr : Array Value}, partsIn T place ps cs = some cs' → Vs m cs arr.toList →
    ps.length = pv.length → (∀ (i : Nat) (p : Nat × SV) (q : Nat × Value), ps[i]? = some p → pv[i]? = some q → p.1 = q.1 ∧ V m p.2 q.2) → ∃ arr', Instr.fill place arr pv = some arr' ∧ Vs m cs' arr'.toList := by
  intro ps
  induction ps with
  | nil =>
    intro pv cs cs' arr h hv hl hp
    cases pv with
    | nil => simp [partsIn] at h; subst h; exact ⟨arr, rfl, hv⟩
    | cons _ _ => simp at hl
  | cons p ps ih =>
    intro pv cs cs' arr h hv hl hp
    cases pv with
    | nil => simp at hl
    | cons q pv =>
      obtain ⟨i, x⟩ := p
      obtain ⟨i', v⟩ := q
      obtain ⟨h0, hx⟩ := hp 0 (i, x) (i', v) rfl rfl
      simp only at hx h0
      subst h0
      unfold partsIn at h
      split at h
      · rename_i o sz' hpl
        cases hq : (Nat.beq (lenN x.cells) sz' && Nat.ble (o + sz') (lenN cs) && x.cells.all SV.one) with
        | false => rw [hq] at h; cases h
        | true =>
          rw [hq] at h
          simp only [cond_true, fL_eq] at h
          simp only [Bool.and_eq_true, beqN, decide_eq_true_eq, lenN_eq, Nat.ble_eq] at hq
          obtain ⟨⟨q1, q2⟩, q3⟩ := hq
          have hvs := hx.cells q3
          have hsz : v.cells.size = sz' := by rw [← Array.length_toList, ← hvs.length, q1]
          have hcs : cs.length = arr.size := by rw [hv.length, Array.length_toList]
          have e : (Array.foldl (fun cs (p : Value × Nat) => cs.setIfInBounds (o + p.2) p.1) arr v.cells.zipIdx).toList = splice arr.toList o v.cells.toList := by
            rw [← Array.foldl_toList, Array.toList_zipIdx]
            have := foldl_splice o v.cells.toList 0 arr (by simp; omega)
            simpa using this
          obtain ⟨arr', g1, g2⟩ := ih (pv := pv) (arr := Array.foldl (fun cs (p : Value × Nat) => cs.setIfInBounds (o + p.2) p.1) arr v.cells.zipIdx) h (by rw [e]; exact hv.splice hvs o) (by simpa using hl) (fun i p q h1 h2 => hp (i + 1) p q h1 h2)
          refine ⟨arr', ?_, g2⟩
          unfold Instr.fill
          rw [hpl]
          simp only
          rw [if_neg (by simp [hsz]; omega)]
          exact g1
      · cases h

theorem places_ok (hT : TOk P T) {t : TypeId} {fs : List (Nat × TypeId)} {fields : Array Field} (hf : fields.toList.map (fun f => (f.offset, f.type)) = fs) (hall : ∀ f ∈ fields.toList, f.name ≠ "_" ∧ ∃ i, P.info? f.type = some i ∧ i.size ≠ 0) :
    ∃ places : List (Nat × Nat), fields.toList.mapM (fun f => (P.info? f.type).map fun i => (f.offset, i.size)) = some places ∧ ∀ i q, placeOf T fs i = some q → places[i]? = some q := by
  subst hf
  generalize fields.toList = l at hall
  induction l with
  | nil => exact ⟨[], by simp, fun i q h => by simp [placeOf] at h⟩
  | cons f l ih =>
    obtain ⟨places, h1, h2⟩ := ih (fun g hg => hall g (List.mem_cons_of_mem _ hg))
    obtain ⟨_, i0, h3, _⟩ := hall f List.mem_cons_self
    refine ⟨(f.offset, i0.size) :: places, by simp [h3, h1], fun i q h => ?_⟩
    cases i with
    | zero =>
      simp only [placeOf, List.map_cons, List.getElem?_cons_zero] at h
      split at h
      · rename_i ti hti
        obtain ⟨i1, z, g1, g2, _⟩ := (hT _ ti hti).info
        rw [h3] at g1
        obtain rfl := Option.some.inj g1
        rw [List.getElem?_cons_zero, ← h, g2]
      · cases h
    | succ i => exact h2 i q (by simpa [placeOf] using h)

theorem fill_places {place place' : Nat → Option (Nat × Nat)} (h : ∀ i q, place i = some q → place' i = some q) : ∀ {pv : List (Nat × Value)} {arr arr' : Array Value}, Instr.fill place arr pv = some arr' → Instr.fill place' arr pv = some arr' := by
  intro pv
  induction pv with
  | nil => intro arr arr' h; exact h
  | cons p pv ih =>
    obtain ⟨i, v⟩ := p
    intro arr arr' hf
    unfold Instr.fill at hf ⊢
    cases hp : place i with
    | none => rw [hp] at hf; cases hf
    | some q =>
      rw [hp] at hf
      rw [h i q hp]
      simp only at hf ⊢
      split at hf
      · cases hf
      · rename_i hc; rw [if_neg hc]; exact ih hf

theorem does_build (hT : TOk P T) {t : TypeId} {ps : List (Nat × SV)} {pv : Array (Nat × Value)} (hR : Rel m Imm H w) (hl : ps.length = pv.size) (hp : ∀ (i : Nat) (p : Nat × SV) (q : Nat × Value), ps[i]? = some p → pv[i]? = some q → p.1 = q.1 ∧ V m p.2 q.2)
    (h : Holds (evBuild T t ps) s u) : Does P (Instr.build t pv) m Imm H w key s u := by
  unfold evBuild at h
  have hp' : ∀ (i : Nat) (p : Nat × SV) (q : Nat × Value), ps[i]? = some p → pv.toList[i]? = some q → p.1 = q.1 ∧ V m p.2 q.2 := fun i p q h1 h2 => hp i p q h1 (by simpa using h2)
  split at h
  · rename_i fs sz' by' z rk hti
    have hA := hT t _ hti
    split at h
    · rename_i cs' hc
      obtain ⟨rfl, rfl⟩ := h.ok
      obtain ⟨i, zv, h1, h2, h3, h4, h5, _⟩ := hA.info
      obtain ⟨⟨fields, hu, hf, hall⟩, _⟩ := hA.desc
      obtain ⟨places, g1, g2⟩ := places_ok hT (t := t) hf hall
      obtain ⟨arr', f1, f2⟩ := fill_ok (arr := zv.cells) hc (by rw [h5]; exact vals m z) (by simpa using hl) hp'
      have hb : P.built t pv.toList = some arr' := by
        simp only [Program.built, h1, hu, h4, g1]
        exact fill_places (fun i q h => by simpa using g2 i q h) f1
      exact .same hR (run_build w t pv arr' hb) (.agg _ _ f2)
    · exact h.fail.elim
  · rename_i n e sz' by' z rk hti
    have hA := hT t _ hti
    split at h
    · rename_i te hte
      split at h
      · rename_i cs' hc
        obtain ⟨rfl, rfl⟩ := h.ok
        obtain ⟨i, zv, h1, h2, h3, h4, h5, _⟩ := hA.info
        obtain ⟨ie, ze, e1, e2, _⟩ := (hT e _ hte).info
        obtain ⟨arr', f1, f2⟩ := fill_ok (arr := zv.cells) hc (by rw [h5]; exact vals m z) (by simpa using hl) hp'
        have hb : P.built t pv.toList = some arr' := by
          simp only [Program.built, h1, show P.underlying t = some (.array n e) from hA.desc, h4, e1, e2]
          exact f1
        exact .same hR (run_build w t pv arr' hb) (.agg _ _ f2)
      · exact h.fail.elim
    · exact h.fail.elim
  · exact h.fail.elim
end Go.Proofs.Ytncdakkigkmfjaa.Sx
