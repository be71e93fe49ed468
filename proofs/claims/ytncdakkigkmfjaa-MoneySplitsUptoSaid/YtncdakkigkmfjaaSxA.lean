import Derived.Test.YtncdakkigkmfjaaSxS
import Derived.Laws.AppendOwn
/-! Rows that are made, and that grow. -/
namespace Go.Proofs.Ytncdakkigkmfjaa.Sx
open Go
set_option linter.unusedVariables false
set_option linter.unusedSimpArgs false

variable {P : Program} {T : TT} {m : Nat → Place} {Imm : Nat → Prop} {H : VH} {w : World} {key : Nat} {s : SV} {u : List (Nat × Option VB)}

theorem slF_new (m : Nat → Place) (b : Nat) (p : Place) (c : Nat) (h1 : p.len ≤ c) (h2 : c ≤ p.cap) : V (setM m b p) (.slF b) (.slice (some ⟨p.blk, p.off, none⟩) p.len c) := by
  have := V.slF (m := setM m b p) b c (by rw [setM_at]; exact h1) (by rw [setM_at]; exact h2)
  rwa [setM_at] at this

/-- The zeros of n elements, one behind the other. -/
def zerosOf (z : List Value) (n : Nat) : List Value := (List.replicate n z).flatten
theorem zerosOf_get {z : List Value} : ∀ {n i : Nat}, i < n * z.length → (zerosOf z n)[i]? = z[i % z.length]? := by
  intro n
  induction n with
  | zero => intro i h; omega
  | succ n ih =>
    intro i h
    have e : zerosOf z (n + 1) = z ++ zerosOf z n := by simp [zerosOf, List.replicate_succ]
    rw [e]
    by_cases hi : i < z.length
    · rw [List.getElem?_append_left hi, Nat.mod_eq_of_lt hi]
    · rw [List.getElem?_append_right (by omega), ih (by rw [Nat.add_mul] at h; omega)]
      rw [← Nat.mod_eq_sub_mod (by omega)]
theorem zerosOf_length (z : List Value) (n : Nat) : (zerosOf z n).length = n * z.length := by
  simp [zerosOf]
theorem zeros_array {z : Array Value} (hz : 0 < z.size) (n : Nat) : ((Array.range (n * z.size)).map (fun i => z[i % z.size]!)).toList = zerosOf z.toList n := by
  apply List.ext_getElem?
  intro i
  by_cases hi : i < n * z.size
  · rw [zerosOf_get (by simpa using hi)]
    have hm : i % z.size < z.size := Nat.mod_lt _ hz
    simp [hi, hm]
  · rw [List.getElem?_eq_none (by simp; omega), List.getElem?_eq_none (by rw [zerosOf_length]; simp; omega)]

theorem kindS_ok (hT : TOk P T) {t : TypeId} {k : RK} (h : kindS T t = some k) : ∃ e inf z, P.underlying t = some (.slice e) ∧ P.info? e = some inf ∧ inf.zero = some z ∧ inf.size = sz k ∧ inf.bytes = bytesS T t ∧ z.cells.size = sz k ∧ ZeroOk k z.cells.toList := by
  unfold kindS at h
  split at h
  · rename_i e _ _ _ _ hti
    unfold kindE at h
    split at h
    · rename_i ti hte
      obtain ⟨inf, z, h1, h2, h3, h4, h5, _⟩ := (hT e ti hte).info
      obtain ⟨k1, k2⟩ := (hT e ti hte).kind k h
      refine ⟨e, inf, z, (hT t _ hti).desc, h1, h4, by rw [h2, k1], ?_, ?_, by rw [h5]; exact k2⟩
      · simp [bytesS, hti, hte, h3]
      · rw [← Array.length_toList, h5]; exact k2.1
    · cases h
  · cases h

/-- A row of zeros. -/
theorem zero_cells {k : RK} {z : List Value} (hz : ZeroOk k z) {n c : Nat} (hnc : n ≤ c) : ∀ (i j : Nat) (e : CS), i < n → (enc k ((List.replicate n (zK k)).getD i (zK k)))[j]? = some e → ∃ v, (zerosOf z c)[i * sz k + j]? = some v ∧ CV Imm w e v := by
  intro i j e hi he
  have e1 : (List.replicate n (zK k)).getD i (zK k) = zK k := by simp [List.getD, hi]
  rw [e1] at he
  have hj : j < sz k := by have := (List.getElem?_eq_some_iff.1 he).1; rwa [enc_length] at this
  obtain ⟨v, h1, h2⟩ := hz.2 j e he
  have hlt : i * sz k + j < c * sz k := by
    have : (i + 1) * sz k ≤ c * sz k := Nat.mul_le_mul_right _ (by omega)
    rw [Nat.add_mul] at this; omega
  refine ⟨v, ?_, h2 _ _⟩
  rw [zerosOf_get (by rw [hz.1]; exact hlt), hz.1, Nat.mul_comm i, Nat.mul_add_mod, Nat.mod_eq_of_lt hj]
  exact h1

theorem does_makeSlice (hT : TOk P T) {t : TypeId} {l c : SV} {vl vc : Value} (hR : Rel m Imm H w) (hc : Clean key H) (hl : V m l vl) (hcp : V m c vc) (h : Holds (evMakeSlice T t l c key) s u) : Does P (Instr.makeSlice t vl vc) m Imm H w key s u := by
  unfold evMakeSlice at h
  split at h
  · rename_i k n mm hk
    cases hl; cases hcp
    cases hq : Nat.beq (bytesS T t) 0 with
    | true => rw [hq] at h; exact h.fail.elim
    | false =>
      rw [hq] at h
      obtain ⟨⟨h0, h1, h2⟩, rfl, rfl⟩ := h.vc
      obtain ⟨e, inf, z, hu, hi, hz, hs, hb, hzs, hzo⟩ := kindS_ok hT hk
      have hbp : 0 < bytesS T t := by rw [beqN] at hq; simp at hq; omega
      have hmm : mm ≤ 140737488355328 := by
        have : mm * 1 ≤ mm * (bytesS T t : Int) := Int.mul_le_mul_of_nonneg_left (by omega) (by omega)
        omega
      have w1 : IntKind.i64.wrap n = n := by simp only [IntKind.wrap, IntKind.bits, IntKind.signed]; simp; omega
      have w2 : IntKind.i64.wrap mm = mm := by simp only [IntKind.wrap, IntKind.bits, IntKind.signed]; simp; omega
      have hb2 : (inf.bytes : Int) * mm = mm * (bytesS T t : Int) := by rw [hb, Int.mul_comm]
      have t1 : ¬ (mm < 0) := by omega
      have t2 : ¬ ((281474976710656 : Int) < inf.bytes * mm) := by rw [hb2]; omega
      have t3 : ¬ (n < 0) := by omega
      have t4 : ¬ (mm < n) := by omega
      have hrun : (Instr.makeSlice t (.int .i64 n) (.int .i64 mm)).run P w = .ok (.slice (some ⟨w.heap.size, 0, none⟩) n.toNat mm.toNat) (w.alloc (.cells ((Array.range (mm.toNat * inf.size)).map (fun i => (if mm.toNat * inf.size = 0 then #[] else z.cells)[i % (if mm.toNat * inf.size = 0 then #[] else z.cells).size]!)) e)) := by
        simp only [Instr.makeSlice, Sem.run_bind, run_underlying hu, Result.andThen_ok, asInt, asIntOf, Sem.run_pure, run_typeInfo hi, w1, w2]
        by_cases hm0 : mm.toNat * inf.size = 0
        · simp only [if_pos hm0]
          simp [t1, t2, t3, t4, run_sizeOf' hi, newRow]
          intro hh; exact absurd hm0 hh
        · simp only [if_neg hm0]
          simp [t1, t2, t3, t4, run_sizeOf' hi, newRow, run_zeroValue' hi hz]
          intro hh; exact absurd hh hm0
      refine ⟨_, _, setM m key ⟨w.heap.size, 0, sz k, mm.toNat, n.toNat⟩, Imm, hrun, ?_, ?_⟩
      · exact slF_new m key ⟨w.heap.size, 0, sz k, mm.toNat, n.toNat⟩ mm.toNat (by simp; omega) (Nat.le_refl _)
      · have e1 : ((Array.range (mm.toNat * inf.size)).map (fun i => (if mm.toNat * inf.size = 0 then #[] else z.cells)[i % (if mm.toNat * inf.size = 0 then #[] else z.cells).size]!)).toList = zerosOf z.cells.toList mm.toNat := by
          by_cases hm0 : mm.toNat * inf.size = 0
          · have hmz : mm.toNat = 0 := by
              rcases Nat.mul_eq_zero.1 hm0 with h | h
              · exact h
              · have := sz_pos k; omega
            simp [hmz, zerosOf]
          · simp only [if_neg hm0]
            rw [hs, ← hzs]
            exact zeros_array (by rw [hzs]; exact sz_pos k) _
        have hst := Step.newRow (key := key) hR (hc key (inRange_self key)) (inRange_self key) ((Array.range (mm.toNat * inf.size)).map (fun i => (if mm.toNat * inf.size = 0 then #[] else z.cells)[i % (if mm.toNat * inf.size = 0 then #[] else z.cells).size]!)) e k (List.replicate n.toNat (zK k)) mm.toNat (by simp; omega)
          (by rw [← Array.length_toList, e1, zerosOf_length, Array.length_toList, hzs]) (by
            intro i j e' hi' he'
            obtain ⟨v, g1, g2⟩ := zero_cells (Imm := Imm) (w := w) hzo (n := n.toNat) (c := mm.toNat) (by omega) i j e' (by simpa using hi') he'
            refine ⟨v, ?_, g2⟩
            rw [← Array.getElem?_toList, e1]; exact g1)
        simpa using hst
  · exact h.fail.elim

theorem Step.move {w' : World} (hR : Rel m Imm H w) {b k' : Nat} {vb vb' : VB} (hH : H b = some vb) (ho : Own (m b) vb) (hf : ¬ UsedIn H k') (hk : inRange key k' = true) (p : Place) (hp : p.blk = (m b).blk)
    (hcalm : Calm w w') (hkeep : ∀ r, r ≠ (m b).blk → w'.heap[r]? = w.heap[r]?) (hv : Hold (setM m k' p) Imm w' p vb') : Step m Imm H w (setM m k' p) Imm (upd [(k', some vb'), (b, none)] H) w' key := by
  have hi : ∀ r, Imm r → w'.heap[r]? = w.heap[r]? := fun r hr => hkeep r (by rintro rfl; exact hR.apart b vb hH ho hr)
  have ne : ∀ b' cs, H b' = some (.cells cs) → ∀ x ∈ idsL cs, x ≠ k' := by rintro b' cs h x hx rfl; exact hf (.inr ⟨b', cs, h, hx⟩)
  rw [upd_cons, upd_cons, upd_nil]
  have hs : ∀ b' v, (if b' = k' then some vb' else if b' = b then none else H b') = some v → (b' = k' ∧ v = vb') ∨ (b' ≠ k' ∧ b' ≠ b ∧ H b' = some v) := by
    intro b' v h
    by_cases e : b' = k'
    · rw [if_pos e] at h; exact .inl ⟨e, (Option.some.inj h).symm⟩
    · rw [if_neg e] at h
      by_cases e2 : b' = b
      · rw [if_pos e2] at h; cases h
      · rw [if_neg e2] at h; exact .inr ⟨e, e2, h⟩
  refine ⟨⟨?_, ?_, ?_, fun r hr => Nat.lt_of_lt_of_le (hR.imm r hr) hcalm.size⟩, ?_, fun _ h => h, fun _ h => .inl h, ?_, ?_, hcalm⟩
  · intro b' v h
    rcases hs b' v h with ⟨rfl, rfl⟩ | ⟨e1, e2, h⟩
    · rw [setM_at]; exact hv
    · rw [setM_ne m p e1]
      exact (hR.hold b' v h).stays (fun _ h => h) hi (fun o => hkeep _ (hR.dist b' b v vb h hH o ho e2)) (fun cs hcs x hx => setM_ne m p (ne b' cs (hcs ▸ h) x hx))
  · intro b1 b2 v1 v2 h1 h2 o1 o2 hne
    rcases hs b1 v1 h1 with ⟨g1, g1'⟩ | ⟨e1, e2, g1⟩ <;> rcases hs b2 v2 h2 with ⟨g2, g2'⟩ | ⟨e3, e4, g2⟩
    · exact absurd (g1.trans g2.symm) hne
    · rw [g1, setM_at, setM_ne m p e3, hp]; rw [setM_ne m p e3] at o2; exact hR.dist b b2 vb v2 hH g2 ho o2 (Ne.symm e4)
    · rw [g2, setM_at, setM_ne m p e1, hp]; rw [setM_ne m p e1] at o1; exact hR.dist b1 b v1 vb g1 hH o1 ho e2
    · rw [setM_ne m p e1] at o1 ⊢; rw [setM_ne m p e3] at o2 ⊢; exact hR.dist b1 b2 v1 v2 g1 g2 o1 o2 hne
  · intro b' v h o
    rcases hs b' v h with ⟨rfl, rfl⟩ | ⟨e1, e2, h⟩
    · rw [setM_at, hp]; exact hR.apart b vb hH ho
    · rw [setM_ne m p e1] at o ⊢; exact hR.apart b' v h o
  · intro x hx
    exact setM_ne m p (by rintro rfl; rw [hk] at hx; cases hx)
  · intro b' v h o
    rcases hs b' v h with ⟨rfl, rfl⟩ | ⟨e1, e2, h⟩
    · rw [setM_at, hp]; exact .inr ⟨b, vb, hH, ho, rfl⟩
    · rw [setM_ne m p e1] at o ⊢; exact .inr ⟨b', v, h, o, rfl⟩
  · intro r _ h2
    exact hkeep r (by rintro rfl; exact h2 (.inr ⟨b, vb, hH, ho, rfl⟩))

theorem does_buildSlice (hT : TOk P T) {t : TypeId} {n : Nat} {ps : List (Nat × SV)} {pv : Array (Nat × Value)} (hR : Rel m Imm H w) (hc : Clean key H) (hl : ps.length = pv.size)
    (hp : ∀ (i : Nat) (p : Nat × SV) (q : Nat × Value), ps[i]? = some p → pv[i]? = some q → p.1 = q.1 ∧ V m p.2 q.2)
    (h : Holds (evBuildSlice T t n ps H key) s u) : Does P (Instr.buildSlice t n pv) m Imm H w key s u := by
  unfold evBuildSlice at h
  split at h
  · rename_i e _ _ _ _ hti
    have hu : P.underlying t = some (.slice e) := (hT t _ hti).desc
    split at h
    · rename_i ti hte
      split at h
      · rename_i k hk
        cases hq : Nat.ble (n * ti.size) 16777216 with
        | false => rw [hq] at h; exact h.fail.elim
        | true =>
          rw [hq] at h
          rw [Nat.ble_eq] at hq
          simp only [cond_true] at h
          split at h
          · rename_i cs hcs
            split at h
            · rename_i cs' u' hcs'
              split at h
              · rename_i xs hxs
                cases hn : Nat.beq (lenN xs) n with
                | false => rw [hn] at h; exact h.fail.elim
                | true =>
                  rw [hn] at h
                  obtain ⟨rfl, rfl⟩ := h.ok
                  rw [beqN, decide_eq_true_eq, lenN_eq] at hn
                  obtain ⟨inf, z, h1, h2, h3, h4, h5, _⟩ := (hT e ti hte).info
                  obtain ⟨k1, k2⟩ := (hT e ti hte).kind k hk
                  have hzs : z.cells.size = ti.size := by rw [← Array.length_toList, h5, k2.1, k1]
                  have hzp : 0 < ti.size := by rw [k1]; exact sz_pos k
                  have e1 : ((Array.range (n * inf.size)).map (fun i => (if n * inf.size = 0 then #[] else z.cells)[i % (if n * inf.size = 0 then #[] else z.cells).size]!)).toList = zerosOf z.cells.toList n := by
                    by_cases hm0 : n * inf.size = 0
                    · have hmz : n = 0 := by
                        rcases Nat.mul_eq_zero.1 hm0 with h | h
                        · exact h
                        · omega
                      simp [hmz, zerosOf]
                    · simp only [if_neg hm0]
                      rw [h2, ← hzs]
                      exact zeros_array (by rw [hzs]; exact hzp) _
                  have hvs : Vs m ((List.replicate n (ti.zero.map .val)).flatten) ((Array.range (n * inf.size)).map (fun i => (if n * inf.size = 0 then #[] else z.cells)[i % (if n * inf.size = 0 then #[] else z.cells).size]!)).toList := by
                    rw [e1, h5]
                    have : (List.replicate n (ti.zero.map SV.val)).flatten = (zerosOf ti.zero n).map SV.val := by simp [zerosOf, List.map_flatten]
                    rw [this]
                    exact vals m _
                  obtain ⟨arr', f1, f2⟩ := fill_ok (place := fun i => some (i * ti.size, ti.size)) (pv := pv.toList) hcs hvs (by simpa using hl) (fun i p q g1 g2 => hp i p q g1 (by simpa using g2))
                  have hrun : (Instr.buildSlice t n pv).run P w = .ok (.slice (some ⟨w.heap.size, 0, none⟩) n n) (w.alloc (.cells arr' e)) := by
                    have hb : ¬ (16777216 < n * inf.size) := by rw [h2]; omega
                    rw [← h2] at f1
                    by_cases hm0 : n * inf.size = 0
                    · simp only [if_pos hm0] at f1
                      have f1' : Instr.fill (fun i => some (i * inf.size, inf.size)) (Array.map (fun _ => default) (Array.range 0)) pv.toList = some arr' := by simpa [hm0] using f1
                      simp [Instr.buildSlice, run_underlying hu, run_sizeOf' h1, hm0, newRow]
                      rw [f1']
                      simp
                    · simp only [if_neg hm0] at f1
                      simp [Instr.buildSlice, run_underlying hu, run_sizeOf' h1, hb, hm0, newRow, run_zeroValue' h1 h4]
                      rw [f1]
                      simp
                  obtain ⟨g1, g2, g3⟩ := toCS_ok hR hcs' f2
                  have hfr := Step.freeze hR g2 key
                  refine ⟨_, _, setM m key ⟨w.heap.size, 0, sz k, xs.length, xs.length⟩, ImmF m Imm u', hrun, ?_, ?_⟩
                  · have := slF_new m key ⟨w.heap.size, 0, sz k, xs.length, xs.length⟩ n (by simp; omega) (by simp; omega)
                    simpa [hn] using this
                  · have := hfr.trans (row_of hfr.rel (inRange_self key) (not_used_upd g2 (hc key (inRange_self key))) arr' e hxs (by rw [g1, Array.length_toList]) g3)
                    rwa [← upd_append] at this
              · exact h.fail.elim
            · exact h.fail.elim
          · exact h.fail.elim
      · exact h.fail.elim
    · exact h.fail.elim
  · exact h.fail.elim
end Go.Proofs.Ytncdakkigkmfjaa.Sx
