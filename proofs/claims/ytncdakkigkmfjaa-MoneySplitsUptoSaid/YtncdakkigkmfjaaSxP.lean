import Derived.Test.YtncdakkigkmfjaaSxO
/-! The store. -/
namespace Go.Proofs.Ytncdakkigkmfjaa.Sx
open Go
set_option linter.unusedVariables false
set_option linter.unusedSimpArgs false

variable {P : Program} {T : TT} {m : Nat → Place} {Imm : Nat → Prop} {H : VH} {w : World} {key : Nat} {s : SV} {u : List (Nat × Option VB)}

def DoesU (P : Program) (sem : Sem Unit) (m : Nat → Place) (Imm : Nat → Prop) (H : VH) (w : World) (key : Nat) (u : List (Nat × Option VB)) : Prop :=
  ∃ w' m' Imm', sem.run P w = .ok () w' ∧ Step m Imm H w m' Imm' (upd u H) w' key

theorem setRow_at {w : World} {g : Nat} {c c' : Array Value} {t : TypeId} (h : w.heap[g]? = some (.cells c t (0, 0))) : (w.setRow g c').heap[g]? = some (.cells c' t (0, 0)) := setRow_heap w g c c' t _ h

/-- A row of which one element is written. -/
theorem Step.writeRow (hR : Rel m Imm H w) {b : Nat} {k : RK} {xs ys : List (El k)} (hH : H b = some (.row true k xs)) (hcap : 0 < (m b).cap) {arr arr' : Array Value} {t : TypeId} (hh : w.heap[(m b).blk]? = some (.cells arr t (0, 0)))
    (hsz : arr'.size = arr.size) (hl : ys.length = xs.length)
    (hv : ∀ i j e, i < ys.length → (enc k (ys.getD i (zK k)))[j]? = some e → ∃ v, arr'[i * sz k + j]? = some v ∧ CV Imm w e v) (key : Nat) :
    Step m Imm H w m Imm (upd [(b, some (.row true k ys))] H) (w.setRow (m b).blk arr') key := by
  obtain ⟨p1, p2, p3, p4, p5, _⟩ := hR.hold b _ hH
  obtain ⟨p0, arr0, t0, h0, hs0⟩ := p5 rfl hcap
  rw [hh] at h0
  simp only [Option.some.injEq, Obj.cells.injEq, and_true] at h0
  obtain ⟨rfl, rfl⟩ := h0
  have imm : ∀ r, Imm r → (w.setRow (m b).blk arr').heap[r]? = w.heap[r]? := fun r hr => setRow_other (by rintro rfl; exact hR.apart b _ hH hcap hr)
  refine Step.write (vb' := .row true k ys) hR hH hcap hcap (calm_setRow w _ _) (fun r hr => setRow_other hr) ⟨p1, by rw [p2, hl], by omega, ?_, fun _ _ => ⟨p0, arr', t, setRow_at hh, by omega⟩, fun h => by cases h⟩ key
  intro i j e hi he
  obtain ⟨v, h1, h2⟩ := hv i j e hi he
  refine ⟨v, ?_, h2.stays (fun _ h => h) imm⟩
  rw [p0, Nat.zero_add, cell_row (setRow_at hh)]
  simpa using h1

theorem does_store (hT : TOk P T) {t : TypeId} {a x : SV} {va vx : Value} (hR : Rel m Imm H w) (ha : V m a va) (hx : V m x vx) (h : Holds (evStore T t a x H) s u) (key : Nat) : s = .undef ∧ DoesU P (Instr.storeAt t va vx) m Imm H w key u := by
  unfold evStore at h
  split at h
  · exact h.fail.elim
  · rename_i ti hti
    have hA := hT t ti hti
    cases hq : (Nat.beq (lenN x.cells) ti.size && x.cells.all SV.one) with
    | false => rw [hq] at h; exact h.fail.elim
    | true =>
      rw [hq] at h
      simp only [cond_true] at h
      simp only [Bool.and_eq_true, beqN, decide_eq_true_eq, lenN_eq] at hq
      obtain ⟨hq1, hq2⟩ := hq
      have hvs := hx.cells hq2
      have hone := hvs.one hq2
      have hsz : vx.cells.size = ti.size := by rw [← Array.length_toList, ← hvs.length, hq1]
      split at h
      · rename_i b j
        cases ha
        split at h
        · rename_i cs hb
          obtain ⟨h0, arr, ty, h1, h2⟩ := hR.hold b _ hb
          cases hq : Nat.ble (j + ti.size) (lenN cs) with
          | false => rw [hq] at h; exact h.fail.elim
          | true =>
            rw [hq] at h
            obtain ⟨rfl, rfl⟩ := h.ok
            rw [Nat.ble_eq, lenN_eq] at hq
            have hal : cs.length = arr.size := by rw [h2.length, Array.length_toList]
            refine ⟨rfl, _, m, Imm, run_storeAt hA h1 hsz (by rw [h0]; omega) hone, ?_⟩
            refine Step.write (vb' := .cells (splice cs j x.cells)) hR hb trivial trivial (calm_setRow w _ _) (fun r hr => setRow_other hr) ⟨h0, _, ty, setRow_at h1, ?_⟩ key
            rw [h0, Nat.zero_add]
            exact h2.splice hvs j
        · rename_i k xs hb
          obtain ⟨p1, p2, p3, p4, p5, _⟩ := hR.hold b _ hb
          split at h
          · rename_i n _ hd
            split at h
            · rename_i cs u' hcs
              split at h
              · rename_i ys hys
                cases hq : (Nat.beq (lenN xs) n && Nat.beq (lenN ys) n && Nat.blt 0 n && !memN b (keysOf u')) with
                | false => rw [hq] at h; exact h.fail.elim
                | true =>
                  rw [hq] at h
                  obtain ⟨rfl, rfl⟩ := h.ok
                  simp only [Bool.and_eq_true, beqN, decide_eq_true_eq, lenN_eq, Nat.blt, Nat.ble_eq, Bool.not_eq_true'] at hq
                  obtain ⟨⟨⟨q1, q2⟩, q3⟩, q4⟩ := hq
                  have hcap : 0 < (m b).cap := by omega
                  obtain ⟨p0, arr, ty, h1, hs0⟩ := p5 rfl hcap
                  obtain ⟨t1, t2, t3⟩ := toCS_ok hR hcs hvs
                  obtain ⟨d1, d2⟩ := decAll_ok hys
                  have hfr := Step.freeze hR t2 key
                  have hH1 : upd u' H b = some (.row true k xs) := by
                    rw [← hb]
                    exact (upd_same (H' := H) (fun _ => rfl)).trans (by
                      unfold upd
                      cases e : lkN u' b with
                      | none => rfl
                      | some q =>
                        have : b ∈ keysOf u' := by rw [keysOf_eq]; exact List.mem_map.2 ⟨_, lkN_some e, rfl⟩
                        rw [(memN_iff b _).2 this] at q4; cases q4)
                  have hcl : cs.length = ti.size := by rw [t1, Array.length_toList, hsz]
                  have hal : ti.size ≤ arr.size := by rw [hs0, ← hcl, d1, q2, ← q1]; exact Nat.mul_le_mul_right _ p3
                  refine ⟨rfl, _, m, ImmF m Imm u', run_storeAt hA h1 hsz (by rw [p0]; omega) hone, ?_⟩
                  have hw := Step.writeRow hfr.rel (ys := ys) hH1 hcap h1 (arr' := (splice arr.toList ((m b).off + 0) vx.cells.toList).toArray) (by
                    rw [List.size_toArray, splice_length (by rw [p0]; simp; omega), Array.length_toList]) (by omega) (by
                    intro i j e hi he
                    obtain ⟨e', g1, g2⟩ := d2 i j e hi he
                    obtain ⟨v, g3, g4⟩ := t3 _ _ g1
                    refine ⟨v, ?_, g2 _ _ _ g4⟩
                    have hlt := (List.getElem?_eq_some_iff.1 g3).1
                    rw [List.getElem?_toArray, splice_get (by rw [p0]; simp; omega), if_pos (by rw [p0]; omega), ← g3]
                    congr 1
                    rw [p0]; omega) key
                  have := hfr.trans hw
                  rwa [← upd_append] at this
              · exact h.fail.elim
            · exact h.fail.elim
          · exact h.fail.elim
        · exact h.fail.elim
      · rename_i b i j
        cases ha with
        | elt _ _ _ hi0 =>
        split at h
        · rename_i k xs hb
          obtain ⟨p1, p2, p3, p4, p5, _⟩ := hR.hold b _ hb
          split at h
          · rename_i cs u' hcs
            split at h
            · rename_i y hy
              cases hqq : (memN b (keysOf u') || !Nat.ble (j + ti.size) (sz k)) with
              | true => rw [hqq] at h; exact h.fail.elim
              | false =>
                rw [hqq] at h
                simp only [Bool.or_eq_false_iff, Bool.not_eq_false', Nat.ble_eq] at hqq
                obtain ⟨hq, hq5⟩ := hqq
                obtain ⟨⟨_, hi⟩, rfl, rfl⟩ := h.vc
                have hcap : 0 < (m b).cap := by omega
                obtain ⟨p0, arr, ty, h1, hs0⟩ := p5 rfl hcap
                obtain ⟨t1, t2, t3⟩ := toCS_ok hR hcs hvs
                have hfr := Step.freeze hR t2 key
                have hH1 : upd u' H b = some (.row true k xs) := by
                  rw [← hb]
                  unfold upd
                  cases e : lkN u' b with
                  | none => rfl
                  | some q =>
                    have : b ∈ keysOf u' := by rw [keysOf_eq]; exact List.mem_map.2 ⟨_, lkN_some e, rfl⟩
                    rw [(memN_iff b _).2 this] at hq; cases hq
                have hcl : cs.length = ti.size := by rw [t1, Array.length_toList, hsz]
                have hjl : j + cs.length ≤ sz k := by omega
                have hin : i.toNat < xs.length := by omega
                have hal : i.toNat * sz k + sz k ≤ arr.size := by
                  rw [hs0, ← Nat.succ_mul]; exact Nat.mul_le_mul_right _ (by omega)
                refine ⟨rfl, _, m, ImmF m Imm u', run_storeAt hA h1 hsz (by rw [p0, p1]; omega) hone, ?_⟩
                have hvl : vx.cells.toList.length = ti.size := by simp [hsz]
                have hw := Step.writeRow hfr.rel (ys := xs.set i.toNat y) hH1 hcap h1 (arr' := (splice arr.toList ((m b).off + (i.toNat * (m b).sz + j)) vx.cells.toList).toArray) (by
                  rw [List.size_toArray, splice_length (by rw [p0, p1, hvl]; simp; omega), Array.length_toList]) (by simp) (by
                  intro i' j' e hi' he
                  have hj' : j' < sz k := by have := (List.getElem?_eq_some_iff.1 he).1; rwa [enc_length] at this
                  rw [List.getElem?_toArray, splice_get (by rw [p0, p1, hvl]; simp; omega), p0, p1, hvl]
                  rw [List.length_set] at hi'
                  by_cases hii : i' = i.toNat
                  · subst hii
                    rw [zK_getD (by simpa using hi'), List.getElem_set_self] at he
                    obtain ⟨e', g1, g2⟩ := (dec_ok hy).2 j' e he
                    rw [splice_get (by rw [enc_length]; omega)] at g1
                    by_cases hjj : j ≤ j' ∧ j' < j + cs.length
                    · rw [if_pos hjj] at g1
                      obtain ⟨v, g3, g4⟩ := t3 _ _ g1
                      refine ⟨v, ?_, g2 _ _ _ g4⟩
                      rw [if_pos (by omega), ← g3]
                      congr 1
                      omega
                    · rw [if_neg hjj] at g1
                      obtain ⟨v, g3, g4⟩ := p4 i.toNat j' e' hin g1
                      refine ⟨v, ?_, g2 _ _ _ (g4.stays (fun _ h => .inl h) (fun _ _ => rfl))⟩
                      rw [if_neg (by omega), ← g3, p0, Nat.zero_add, cell_row h1]
                  · rw [zK_getD (by simpa using hi'), List.getElem_set_ne (fun h => hii h.symm), ← zK_getD hi'] at he
                    obtain ⟨v, g3, g4⟩ := p4 i' j' e hi' he
                    refine ⟨v, ?_, g4.stays (fun _ h => .inl h) (fun _ _ => rfl)⟩
                    have hne : ¬ (0 + (i.toNat * sz k + j) ≤ i' * sz k + j' ∧ i' * sz k + j' < 0 + (i.toNat * sz k + j) + ti.size) := by
                      rcases Nat.lt_or_gt_of_ne hii with hlt | hgt
                      · have : (i' + 1) * sz k ≤ i.toNat * sz k := Nat.mul_le_mul_right _ hlt
                        rw [Nat.add_mul] at this; omega
                      · have : (i.toNat + 1) * sz k ≤ i' * sz k := Nat.mul_le_mul_right _ hgt
                        rw [Nat.add_mul] at this; omega
                    rw [if_neg hne, ← g3, p0, Nat.zero_add, cell_row h1]) key
                have := hfr.trans hw
                rwa [← upd_append] at this
            · exact h.fail.elim
          · exact h.fail.elim
        · exact h.fail.elim
      · exact h.fail.elim
end Go.Proofs.Ytncdakkigkmfjaa.Sx
