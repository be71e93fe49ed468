import Derived.Test.YthbmllekbbfobaaSxO
import Derived.Laws.Tables
import Derived.Laws.StructEq
import Derived.Laws.BytesArg
import Derived.Laws.Slices
import Derived.Laws.AppendOwn
import Derived.Lib.AppendZerosOnto
import Derived.RangeFuncNested
/-! The store. -/
namespace Go.Proofs.Ythbmllekbbfobaa.Sx
open Go
set_option linter.unusedVariables false
set_option linter.unusedSimpArgs false

variable {P : Program} {T : TT} {m : Nat → Place} {Imm : Nat → Prop} {H : VH} {w : World} {key : Nat} {s : SV} {u : List (Nat × Option VB)}

def DoesU (P : Program) (sem : Sem Unit) (m : Nat → Place) (Imm : Nat → Prop) (H : VH) (w : World) (key : Nat) (u : List (Nat × Option VB)) : Prop :=
  ∃ w' m' Imm', sem.run P w = .ok () w' ∧ Step m Imm H w m' Imm' (upd u H) w' key

theorem setRow_at {w : World} {g : Nat} {c c' : Array Value} {t : TypeId} (h : w.heap[g]? = some (.cells c t (0, 0))) : (w.setRow g c').heap[g]? = some (.cells c' t (0, 0)) := setRow_heap w g c c' t _ h

theorem slF_new (m : Nat → Place) (b : Nat) (p : Place) (c : Nat) (h1 : p.len ≤ c) (h2 : c ≤ p.cap) : V (setM m b p) (.slF b) (.slice (some ⟨p.blk, p.off, none⟩) p.len c) := by
  have := V.slF (m := setM m b p) b c (by rw [setM_at]; exact h1) (by rw [setM_at]; exact h2)
  rwa [setM_at] at this

theorem Step.move {w' : World} (hR : Rel m Imm H w) {b k' : Nat} {vb vb' : VB} (hH : H b = some vb) (ho : Own (m b) vb) (hf : ¬ UsedIn H k') (hk : inRange key k' = true) (p : Place) (hp : p.blk = (m b).blk)
    (hcalm : Calm w w') (hkeep : ∀ r, r ≠ (m b).blk → w'.heap[r]? = w.heap[r]?) (hv : Hold (setM m k' p) Imm w' p vb') : Step m Imm H w (setM m k' p) Imm (upd [(k', some vb'), (b, none)] H) w' key := by
  have hi : ∀ r, Imm r → w'.heap[r]? = w.heap[r]? := fun r hr => hkeep r (by rintro rfl; exact hR.apart b vb hH ho hr)
  have ne : ∀ b' cs, H b' = some (.cells cs) → ∀ x ∈ idsL cs, x ≠ k' := by rintro b' cs h x hx rfl; exact hf (.inr ⟨b', cs, h, hx⟩)
  rw [upd_cons, upd_cons, upd_nil]
  have hs : ∀ b' v, (if b' = k' then some vb' else if b' = b then none else H b') = some v → (b' = k' ∧ v = vb') ∨ (b' ≠ k' ∧ b' ≠ b ∧ H b' = some v) := by
    intro b' v h
    by_cases e : b' = k'
    · rw [if_pos e] at h; exact .inl ⟨e, (Option.some.inj h).symm⟩
    · rw [if_neg e] at h
      by_cases e2 : b' = b
      · rw [if_pos e2] at h; cases h
      · rw [if_neg e2] at h; exact .inr ⟨e, e2, h⟩
  refine ⟨⟨?_, ?_, ?_, fun r hr => Nat.lt_of_lt_of_le (hR.imm r hr) hcalm.size⟩, ?_, fun _ h => h, fun _ h => .inl h, ?_, ?_, hcalm⟩
  · intro b' v h
    rcases hs b' v h with ⟨rfl, rfl⟩ | ⟨e1, e2, h⟩
    · rw [setM_at]; exact hv
    · rw [setM_ne m p e1]
      exact (hR.hold b' v h).stays (fun _ h => h) hi (fun o => hkeep _ (hR.dist b' b v vb h hH o ho e2)) (fun cs hcs x hx => setM_ne m p (ne b' cs (hcs ▸ h) x hx))
  · intro b1 b2 v1 v2 h1 h2 o1 o2 hne
    rcases hs b1 v1 h1 with ⟨g1, g1'⟩ | ⟨e1, e2, g1⟩ <;> rcases hs b2 v2 h2 with ⟨g2, g2'⟩ | ⟨e3, e4, g2⟩
    · exact absurd (g1.trans g2.symm) hne
    · rw [g1, setM_at, setM_ne m p e3, hp]; rw [setM_ne m p e3] at o2; exact hR.dist b b2 vb v2 hH g2 ho o2 (Ne.symm e4)
    · rw [g2, setM_at, setM_ne m p e1, hp]; rw [setM_ne m p e1] at o1; exact hR.dist b1 b v1 vb g1 hH o1 ho e2
    · rw [setM_ne m p e1] at o1 ⊢; rw [setM_ne m p e3] at o2 ⊢; exact hR.dist b1 b2 v1 v2 g1 g2 o1 o2 hne
  · intro b' v h o
    rcases hs b' v h with ⟨rfl, rfl⟩ | ⟨e1, e2, h⟩
    · rw [setM_at, hp]; exact hR.apart b vb hH ho
    · rw [setM_ne m p e1] at o ⊢; exact hR.apart b' v h o
  · intro x hx
    exact setM_ne m p (by rintro rfl; rw [hk] at hx; cases hx)
  · intro b' v h o
    rcases hs b' v h with ⟨rfl, rfl⟩ | ⟨e1, e2, h⟩
    · rw [setM_at, hp]; exact .inr ⟨b, vb, hH, ho, rfl⟩
    · rw [setM_ne m p e1] at o ⊢; exact .inr ⟨b', v, h, o, rfl⟩
  · intro r _ h2
    exact hkeep r (by rintro rfl; exact h2 (.inr ⟨b, vb, hH, ho, rfl⟩))

theorem V.slF_inv {b : Nat} {v : Value} (h : V m (.slF b) v) : (∃ c, (m b).len ≤ c ∧ c ≤ (m b).cap ∧ v = .slice (some ⟨(m b).blk, (m b).off, none⟩) (m b).len c) ∨ ((m b).len = 0 ∧ ∃ a, v = .slice a 0 0) := by
  cases h with
  | slF _ c h1 h2 => exact .inl ⟨c, h1, h2, rfl⟩
  | slF0 _ a h1 => exact .inr ⟨h1, a, rfl⟩
theorem V.slF_as {b : Nat} {v : Value} (h : V m (.slF b) v) (k : Nat) : V (setM m k (m b)) (.slF k) v := by
  rcases h.slF_inv with ⟨c, h1, h2, rfl⟩ | ⟨h1, a, rfl⟩
  · exact slF_new m k (m b) c h1 h2
  · exact .slF0 k a (by rw [setM_at]; exact h1)
/-- The first elements alone. -/
theorem cut_step (hR : Rel m Imm H w) (hc : Clean key H) {b n : Nat} {k : RK} {xs : List (El k)} {v : Value} (hH : H b = some (.row true k xs)) (hv : V m (.slP b 0 n) v) :
    ∃ m', V m' (.slF key) v ∧ Step m Imm H w m' Imm (upd [(key, some (.row true k (xs.take n))), (b, none)] H) w key ∧ ∀ x, inRange key x = false → m' x = m x := by
  obtain ⟨p1, p2, p3, p4, p5, p6⟩ := hR.hold b _ hH
  have hfree := hc key (inRange_self key)
  have hr := inRange_self key
  have away : ∀ (p : Place) x, inRange key x = false → setM m key p x = m x := fun p x hx => setM_ne m p (by rintro rfl; rw [hr] at hx; cases hx)
  by_cases hcap : 0 < (m b).cap
  · have hold : ∀ q, q ≤ xs.length → Hold (setM m key { m b with len := q }) Imm w { m b with len := q } (.row true k (xs.take q)) := fun q hq =>
      ⟨p1, by simp; omega, by simp; omega, fun i j e hi he => by
        rw [List.length_take] at hi
        have : (xs.take q).getD i (zK k) = xs.getD i (zK k) := by simp [List.getD, show i < q by omega]
        rw [this] at he
        exact p4 i j e (by omega) he, fun _ _ => p5 rfl hcap, fun h => by cases h⟩
    have hst : ∀ q, q ≤ xs.length → Step m Imm H w (setM m key { m b with len := q }) Imm (upd [(key, some (.row true k (xs.take q))), (b, none)] H) w key := fun q hq =>
      Step.move (key := key) (w' := w) (vb' := .row true k (xs.take q)) hR hH hcap hfree hr { m b with len := q } rfl ⟨rfl, rfl, rfl, Nat.le_refl _⟩ (fun _ _ => rfl) (hold q hq)
    cases hv with
    | slP _ _ _ c h1 h2 h3 h4 =>
      refine ⟨_, ?_, hst n (by omega), away _⟩
      have := slF_new m key { m b with len := n } c h1 (by simpa using h2)
      simpa using this
    | slP0 _ _ a hx => exact ⟨_, .slF0 key a (by rw [setM_at]), hst 0 (by omega), away _⟩
  · have hx0 : xs = [] := List.length_eq_zero_iff.1 (by omega)
    subst hx0
    have hne : b ≠ key := by rintro rfl; exact hfree (.inl (by rw [hH]; simp))
    have hfd : ¬ UsedIn (upd [(b, none)] H) key := by
      rintro (hn | ⟨b', cs', hb2, hx⟩)
      · apply hn; rw [upd_cons, upd_nil]; simp only; rw [if_neg (Ne.symm hne)]; exact hc.none hr
      · rcases upd_cases hb2 with hp | ⟨_, hp⟩
        · simp at hp
        · exact hfree (.inr ⟨b', cs', hp, hx⟩)
    have hst := Step.drop hR b key
    have swap : upd [(key, some (VB.row true k []))] (upd [(b, none)] H) = upd [(key, some (VB.row true k [])), (b, none)] H := by rw [← upd_append]; rfl
    have key2 : ∀ blk off, Step m Imm H w (setM m key ⟨blk, off, sz k, 0, 0⟩) Imm (upd [(key, some (VB.row true k [])), (b, none)] H) w key := by
      intro blk off
      have := hst.trans (Step.noRow (key := key) hst.rel hfd hr true k blk off)
      rwa [← upd_append] at this
    simp only [List.take_nil]
    have hlen0 : (m b).len = 0 := p2
    cases hv with
    | slP _ _ _ c h1 h2 h3 h4 =>
      obtain rfl : n = 0 := by omega
      obtain rfl : c = 0 := by omega
      refine ⟨_, ?_, key2 (m b).blk (m b).off, away _⟩
      have := slF_new m key ⟨(m b).blk, (m b).off, sz k, 0, 0⟩ 0 (Nat.le_refl _) (Nat.le_refl _)
      simpa using this
    | slP0 _ _ a hx => exact ⟨_, .slF0 key a (by rw [setM_at]), key2 0 0, away _⟩
/-- A row of which one element is written. -/
theorem Step.writeRow (hR : Rel m Imm H w) {b : Nat} {k : RK} {xs ys : List (El k)} (hH : H b = some (.row true k xs)) (hcap : 0 < (m b).cap) {arr arr' : Array Value} {t : TypeId} (hh : w.heap[(m b).blk]? = some (.cells arr t (0, 0)))
    (hsz : arr'.size = arr.size) (hl : ys.length = xs.length)
    (hv : ∀ i j e, i < ys.length → (enc k (ys.getD i (zK k)))[j]? = some e → ∃ v, arr'[i * sz k + j]? = some v ∧ CV Imm w e v) (key : Nat) :
    Step m Imm H w m Imm (upd [(b, some (.row true k ys))] H) (w.setRow (m b).blk arr') key := by
  obtain ⟨p1, p2, p3, p4, p5, _⟩ := hR.hold b _ hH
  obtain ⟨p0, arr0, t0, h0, hs0⟩ := p5 rfl hcap
  rw [hh] at h0
  simp only [Option.some.injEq, Obj.cells.injEq, and_true] at h0
  obtain ⟨rfl, rfl⟩ := h0
  have imm : ∀ r, Imm r → (w.setRow (m b).blk arr').heap[r]? = w.heap[r]? := fun r hr => setRow_other (by rintro rfl; exact hR.apart b _ hH hcap hr)
  refine Step.write (vb' := .row true k ys) hR hH hcap hcap (calm_setRow w _ _) (fun r hr => setRow_other hr) ⟨p1, by rw [p2, hl], by omega, ?_, fun _ _ => ⟨p0, arr', t, setRow_at hh, by omega⟩, fun h => by cases h⟩ key
  intro i j e hi he
  obtain ⟨v, h1, h2⟩ := hv i j e hi he
  refine ⟨v, ?_, h2.stays (fun _ h => h) imm⟩
  rw [p0, Nat.zero_add, cell_row (setRow_at hh)]
  simpa using h1

theorem does_store (hT : TOk P T) {t : TypeId} {a x : SV} {va vx : Value} (hR : Rel m Imm H w) (ha : V m a va) (hc : Clean key H) (hx : V m x vx) (ho : Old key x) (h : Holds (evStore T t a x H key) s u) : s = .undef ∧ DoesU P (Instr.storeAt t va vx) m Imm H w key u := by
  unfold evStore at h
  split at h
  · exact h.fail.elim
  · rename_i ti hti
    have hA := hT t ti hti
    cases hq : (Nat.beq (lenN x.cells) ti.size && x.cells.all SV.one) with
    | false => rw [hq] at h; exact h.fail.elim
    | true =>
      rw [hq] at h
      simp only [cond_true] at h
      simp only [Bool.and_eq_true, beqN, decide_eq_true_eq, lenN_eq] at hq
      obtain ⟨hq1, hq2⟩ := hq
      have hvs := hx.cells hq2
      have hone := hvs.one hq2
      have hsz : vx.cells.size = ti.size := by rw [← Array.length_toList, ← hvs.length, hq1]
      split at h
      · rename_i b j
        cases ha
        split at h
        · rename_i cs hb
          obtain ⟨h0, arr, ty, h1, h2⟩ := hR.hold b _ hb
          cases hq : Nat.ble (j + ti.size) (lenN cs) with
          | false => rw [hq] at h; exact h.fail.elim
          | true =>
            rw [hq] at h
            rw [Nat.ble_eq, lenN_eq] at hq
            have hal : cs.length = arr.size := by rw [h2.length, Array.length_toList]
            simp only [cond_true] at h
            split at h
            · rename_i y u' hcut
              obtain ⟨rfl, rfl⟩ := h.ok
              unfold cutS at hcut
              split at hcut
              · rename_i b' n
                split at hcut
                · rename_i k xs hb'
                  obtain ⟨rfl, rfl⟩ := Prod.mk.inj (Option.some.inj hcut)
                  obtain ⟨m', v1, v2, v3⟩ := cut_step hR hc hb' hx
                  have hne : b ≠ b' := by rintro rfl; rw [hb] at hb'; cases hb'
                  have hnk : b ≠ key := by rintro rfl; exact hc _ (inRange_self _) (.inl (by rw [hb]; simp))
                  have hb1 : upd [(key, some (VB.row true k (xs.take n))), (b', none)] H b = some (.cells cs) := by
                    rw [upd_cons, upd_cons, upd_nil]
                    simp only [if_neg hnk, if_neg hne]
                    exact hb
                  have hmb : m' b = m b := v3 b (by
                    cases e : inRange key b with
                    | false => rfl
                    | true => exact absurd (.inl (by rw [hb]; simp)) (hc b e))
                  have hvc : vx.cells = #[vx] := by cases v1 <;> rfl
                  have hone' : vx.oneCell' = true := by cases v1 <;> rfl
                  have h2' : Vs m' cs arr.toList := h2.moved fun x hx => v3 x (by
                    cases e : inRange key x with
                    | false => rfl
                    | true => exact absurd (.inr ⟨b, cs, hb, hx⟩) (hc x e))
                  refine ⟨rfl, _, m', Imm, run_storeAt hA h1 hsz (by rw [h0]; omega) hone, ?_⟩
                  have hw := Step.write (w' := w.setRow (m b).blk (splice arr.toList ((m b).off + j) vx.cells.toList).toArray) (vb' := .cells (splice cs j [.slF key])) v2.rel hb1 trivial trivial (calm_setRow w _ _) (fun r hr => setRow_other (by rw [hmb] at hr; exact hr)) ⟨by rw [hmb]; exact h0, _, ty, by rw [hmb]; exact setRow_at h1, by
                    rw [h0, Nat.zero_add, hvc]
                    exact h2'.splice (.cons _ _ _ _ v1 .nil) j⟩ key
                  have := v2.trans hw
                  rwa [← upd_append] at this
                · cases hcut
              · cases hcut
            obtain ⟨rfl, rfl⟩ := h.ok
            refine ⟨rfl, _, m, Imm, run_storeAt hA h1 hsz (by rw [h0]; omega) hone, ?_⟩
            refine Step.write (vb' := .cells (splice cs j x.cells)) hR hb trivial trivial (calm_setRow w _ _) (fun r hr => setRow_other hr) ⟨h0, _, ty, setRow_at h1, ?_⟩ key
            rw [h0, Nat.zero_add]
            exact h2.splice hvs j
        · rename_i k xs hb
          obtain ⟨p1, p2, p3, p4, p5, _⟩ := hR.hold b _ hb
          split at h
          · rename_i n _ hd
            split at h
            · rename_i cs u' hcs
              split at h
              · rename_i ys hys
                cases hq : (Nat.beq (lenN xs) n && Nat.beq (lenN ys) n && Nat.blt 0 n && !memN b (keysOf u')) with
                | false => rw [hq] at h; exact h.fail.elim
                | true =>
                  rw [hq] at h
                  obtain ⟨rfl, rfl⟩ := h.ok
                  simp only [Bool.and_eq_true, beqN, decide_eq_true_eq, lenN_eq, Nat.blt, Nat.ble_eq, Bool.not_eq_true'] at hq
                  obtain ⟨⟨⟨q1, q2⟩, q3⟩, q4⟩ := hq
                  have hcap : 0 < (m b).cap := by omega
                  obtain ⟨p0, arr, ty, h1, hs0⟩ := p5 rfl hcap
                  obtain ⟨t1, t2, t3⟩ := toCS_ok hR hcs hvs
                  obtain ⟨d1, d2⟩ := decAll_ok hys
                  have hfr := Step.freeze hR t2 key
                  have hH1 : upd u' H b = some (.row true k xs) := by
                    rw [← hb]
                    exact (upd_same (H' := H) (fun _ => rfl)).trans (by
                      unfold upd
                      cases e : lkN u' b with
                      | none => rfl
                      | some q =>
                        have : b ∈ keysOf u' := by rw [keysOf_eq]; exact List.mem_map.2 ⟨_, lkN_some e, rfl⟩
                        rw [(memN_iff b _).2 this] at q4; cases q4)
                  have hcl : cs.length = ti.size := by rw [t1, Array.length_toList, hsz]
                  have hal : ti.size ≤ arr.size := by rw [hs0, ← hcl, d1, q2, ← q1]; exact Nat.mul_le_mul_right _ p3
                  refine ⟨rfl, _, m, ImmF m Imm u', run_storeAt hA h1 hsz (by rw [p0]; omega) hone, ?_⟩
                  have hw := Step.writeRow hfr.rel (ys := ys) hH1 hcap h1 (arr' := (splice arr.toList ((m b).off + 0) vx.cells.toList).toArray) (by
                    rw [List.size_toArray, splice_length (by rw [p0]; simp; omega), Array.length_toList]) (by omega) (by
                    intro i j e hi he
                    obtain ⟨e', g1, g2⟩ := d2 i j e hi he
                    obtain ⟨v, g3, g4⟩ := t3 _ _ g1
                    refine ⟨v, ?_, g2 _ _ _ g4⟩
                    have hlt := (List.getElem?_eq_some_iff.1 g3).1
                    rw [List.getElem?_toArray, splice_get (by rw [p0]; simp; omega), if_pos (by rw [p0]; omega), ← g3]
                    congr 1
                    rw [p0]; omega) key
                  have := hfr.trans hw
                  rwa [← upd_append] at this
              · exact h.fail.elim
            · exact h.fail.elim
          · exact h.fail.elim
        · exact h.fail.elim
      · rename_i b i j
        cases ha with
        | elt _ _ _ hi0 =>
        split at h
        · rename_i k xs hb
          obtain ⟨p1, p2, p3, p4, p5, _⟩ := hR.hold b _ hb
          split at h
          · rename_i cs u' hcs
            split at h
            · rename_i y hy
              cases hqq : (memN b (keysOf u') || !Nat.ble (j + ti.size) (sz k)) with
              | true => rw [hqq] at h; exact h.fail.elim
              | false =>
                rw [hqq] at h
                simp only [Bool.or_eq_false_iff, Bool.not_eq_false', Nat.ble_eq] at hqq
                obtain ⟨hq, hq5⟩ := hqq
                obtain ⟨⟨_, hi⟩, rfl, rfl⟩ := h.vc
                have hcap : 0 < (m b).cap := by omega
                obtain ⟨p0, arr, ty, h1, hs0⟩ := p5 rfl hcap
                obtain ⟨t1, t2, t3⟩ := toCS_ok hR hcs hvs
                have hfr := Step.freeze hR t2 key
                have hH1 : upd u' H b = some (.row true k xs) := by
                  rw [← hb]
                  unfold upd
                  cases e : lkN u' b with
                  | none => rfl
                  | some q =>
                    have : b ∈ keysOf u' := by rw [keysOf_eq]; exact List.mem_map.2 ⟨_, lkN_some e, rfl⟩
                    rw [(memN_iff b _).2 this] at hq; cases hq
                have hcl : cs.length = ti.size := by rw [t1, Array.length_toList, hsz]
                have hjl : j + cs.length ≤ sz k := by omega
                have hin : i.toNat < xs.length := by omega
                have hal : i.toNat * sz k + sz k ≤ arr.size := by
                  rw [hs0, ← Nat.succ_mul]; exact Nat.mul_le_mul_right _ (by omega)
                refine ⟨rfl, _, m, ImmF m Imm u', run_storeAt hA h1 hsz (by rw [p0, p1]; omega) hone, ?_⟩
                have hvl : vx.cells.toList.length = ti.size := by simp [hsz]
                have hw := Step.writeRow hfr.rel (ys := xs.set i.toNat y) hH1 hcap h1 (arr' := (splice arr.toList ((m b).off + (i.toNat * (m b).sz + j)) vx.cells.toList).toArray) (by
                  rw [List.size_toArray, splice_length (by rw [p0, p1, hvl]; simp; omega), Array.length_toList]) (by simp) (by
                  intro i' j' e hi' he
                  have hj' : j' < sz k := by have := (List.getElem?_eq_some_iff.1 he).1; rwa [enc_length] at this
                  rw [List.getElem?_toArray, splice_get (by rw [p0, p1, hvl]; simp; omega), p0, p1, hvl]
                  rw [List.length_set] at hi'
                  by_cases hii : i' = i.toNat
                  · subst hii
                    rw [zK_getD (by simpa using hi'), List.getElem_set_self] at he
                    obtain ⟨e', g1, g2⟩ := (dec_ok hy).2 j' e he
                    rw [splice_get (by rw [enc_length]; omega)] at g1
                    by_cases hjj : j ≤ j' ∧ j' < j + cs.length
                    · rw [if_pos hjj] at g1
                      obtain ⟨v, g3, g4⟩ := t3 _ _ g1
                      refine ⟨v, ?_, g2 _ _ _ g4⟩
                      rw [if_pos (by omega), ← g3]
                      congr 1
                      omega
                    · rw [if_neg hjj] at g1
                      obtain ⟨v, g3, g4⟩ := p4 i.toNat j' e' hin g1
                      refine ⟨v, ?_, g2 _ _ _ (g4.stays (fun _ h => .inl h) (fun _ _ => rfl))⟩
                      rw [if_neg (by omega), ← g3, p0, Nat.zero_add, cell_row h1]
                  · rw [zK_getD (by simpa using hi'), List.getElem_set_ne (fun h => hii h.symm), ← zK_getD hi'] at he
                    obtain ⟨v, g3, g4⟩ := p4 i' j' e hi' he
                    refine ⟨v, ?_, g4.stays (fun _ h => .inl h) (fun _ _ => rfl)⟩
                    have hne : ¬ (0 + (i.toNat * sz k + j) ≤ i' * sz k + j' ∧ i' * sz k + j' < 0 + (i.toNat * sz k + j) + ti.size) := by
                      rcases Nat.lt_or_gt_of_ne hii with hlt | hgt
                      · have : (i' + 1) * sz k ≤ i.toNat * sz k := Nat.mul_le_mul_right _ hlt
                        rw [Nat.add_mul] at this; omega
                      · have : (i.toNat + 1) * sz k ≤ i' * sz k := Nat.mul_le_mul_right _ hgt
                        rw [Nat.add_mul] at this; omega
                    rw [if_neg hne, ← g3, p0, Nat.zero_add, cell_row h1]) key
                have := hfr.trans hw
                rwa [← upd_append] at this
            · exact h.fail.elim
          · exact h.fail.elim
        · exact h.fail.elim
      · exact h.fail.elim
end Go.Proofs.Ythbmllekbbfobaa.Sx

/-! Values that are built, compared, indexed, cut. -/
namespace Go.Proofs.Ythbmllekbbfobaa.Sx
open Go
set_option linter.unusedVariables false
set_option linter.unusedSimpArgs false

variable {P : Program} {T : TT} {m : Nat → Place} {Imm : Nat → Prop} {H : VH} {w : World} {key : Nat} {s : SV} {u : List (Nat × Option VB)}

theorem foldl_splice (off : Nat) : ∀ (l : List Value) (k : Nat) (cs : Array Value), off + k + l.length ≤ cs.size →
    ((l.zipIdx k).foldl (fun cs (p : Value × Nat) => cs.setIfInBounds (off + p.2) p.1) cs).toList = splice cs.toList (off + k) l := by
  intro l
  induction l with
  | nil => intro k cs _; simp [splice]
  | cons x l ih =>
    intro k cs h
    simp only [List.length_cons] at h
    rw [List.zipIdx_cons, List.foldl_cons, ih (k + 1) _ (by simp; omega)]
    rw [Array.toList_setIfInBounds]
    apply List.ext_getElem?
    intro i
    have h1 : off + (k + 1) + l.length ≤ (cs.toList.set (off + k) x).length := by simp; omega
    have h2 : off + k + (x :: l).length ≤ cs.toList.length := by simp; omega
    rw [splice_get h1, splice_get h2]
    by_cases a : off + (k + 1) ≤ i ∧ i < off + (k + 1) + l.length
    · rw [if_pos a, if_pos (by simp; omega)]
      rw [show i - (off + k) = (i - (off + (k + 1))) + 1 by omega, List.getElem?_cons_succ]
    · rw [if_neg a]
      by_cases b : i = off + k
      · subst b; rw [if_pos (by simp), List.getElem?_set_self (by simp; omega)]; simp
      · rw [if_neg (by simp; omega), List.getElem?_set_ne (by omega)]

theorem fill_ok {place : Nat → Option (Nat × Nat)} : ∀ {ps : List (Nat × SV)} {pv : List (Nat × Value)} {cs cs' : List SV} {arr : Array Value}, partsIn T place ps cs = some cs' → Vs m cs arr.toList →
    ps.length = pv.length → (∀ (i : Nat) (p : Nat × SV) (q : Nat × Value), ps[i]? = some p → pv[i]? = some q → p.1 = q.1 ∧ V m p.2 q.2) → ∃ arr', Instr.fill place arr pv = some arr' ∧ Vs m cs' arr'.toList := by
  intro ps
  induction ps with
  | nil =>
    intro pv cs cs' arr h hv hl hp
    cases pv with
    | nil => simp [partsIn] at h; subst h; exact ⟨arr, rfl, hv⟩
    | cons _ _ => simp at hl
  | cons p ps ih =>
    intro pv cs cs' arr h hv hl hp
    cases pv with
    | nil => simp at hl
    | cons q pv =>
      obtain ⟨i, x⟩ := p
      obtain ⟨i', v⟩ := q
      obtain ⟨h0, hx⟩ := hp 0 (i, x) (i', v) rfl rfl
      simp only at hx h0
      subst h0
      unfold partsIn at h
      split at h
      · rename_i o sz' hpl
        cases hq : (Nat.beq (lenN x.cells) sz' && Nat.ble (o + sz') (lenN cs) && x.cells.all SV.one) with
        | false => rw [hq] at h; cases h
        | true =>
          rw [hq] at h
          simp only [cond_true, fL_eq] at h
          simp only [Bool.and_eq_true, beqN, decide_eq_true_eq, lenN_eq, Nat.ble_eq] at hq
          obtain ⟨⟨q1, q2⟩, q3⟩ := hq
          have hvs := hx.cells q3
          have hsz : v.cells.size = sz' := by rw [← Array.length_toList, ← hvs.length, q1]
          have hcs : cs.length = arr.size := by rw [hv.length, Array.length_toList]
          have e : (Array.foldl (fun cs (p : Value × Nat) => cs.setIfInBounds (o + p.2) p.1) arr v.cells.zipIdx).toList = splice arr.toList o v.cells.toList := by
            rw [← Array.foldl_toList, Array.toList_zipIdx]
            have := foldl_splice o v.cells.toList 0 arr (by simp; omega)
            simpa using this
          obtain ⟨arr', g1, g2⟩ := ih (pv := pv) (arr := Array.foldl (fun cs (p : Value × Nat) => cs.setIfInBounds (o + p.2) p.1) arr v.cells.zipIdx) h (by rw [e]; exact hv.splice hvs o) (by simpa using hl) (fun i p q h1 h2 => hp (i + 1) p q h1 h2)
          refine ⟨arr', ?_, g2⟩
          unfold Instr.fill
          rw [hpl]
          simp only
          rw [if_neg (by simp [hsz]; omega)]
          exact g1
      · cases h

theorem places_ok (hT : TOk P T) {t : TypeId} {fs : List (Nat × TypeId)} {fields : Array Field} (hf : fields.toList.map (fun f => (f.offset, f.type)) = fs) (hall : ∀ f ∈ fields.toList, f.name ≠ "_" ∧ ∃ i, P.info? f.type = some i ∧ i.size ≠ 0) :
    ∃ places : List (Nat × Nat), fields.toList.mapM (fun f => (P.info? f.type).map fun i => (f.offset, i.size)) = some places ∧ ∀ i q, placeOf T fs i = some q → places[i]? = some q := by
  subst hf
  generalize fields.toList = l at hall
  induction l with
  | nil => exact ⟨[], by simp, fun i q h => by simp [placeOf] at h⟩
  | cons f l ih =>
    obtain ⟨places, h1, h2⟩ := ih (fun g hg => hall g (List.mem_cons_of_mem _ hg))
    obtain ⟨_, i0, h3, _⟩ := hall f List.mem_cons_self
    refine ⟨(f.offset, i0.size) :: places, by simp [h3, h1], fun i q h => ?_⟩
    cases i with
    | zero =>
      simp only [placeOf, List.map_cons, List.getElem?_cons_zero] at h
      split at h
      · rename_i ti hti
        obtain ⟨i1, z, g1, g2, _⟩ := (hT _ ti hti).info
        rw [h3] at g1
        obtain rfl := Option.some.inj g1
        rw [List.getElem?_cons_zero, ← h, g2]
      · cases h
    | succ i => exact h2 i q (by simpa [placeOf] using h)

theorem fill_places {place place' : Nat → Option (Nat × Nat)} (h : ∀ i q, place i = some q → place' i = some q) : ∀ {pv : List (Nat × Value)} {arr arr' : Array Value}, Instr.fill place arr pv = some arr' → Instr.fill place' arr pv = some arr' := by
  intro pv
  induction pv with
  | nil => intro arr arr' h; exact h
  | cons p pv ih =>
    obtain ⟨i, v⟩ := p
    intro arr arr' hf
    unfold Instr.fill at hf ⊢
    cases hp : place i with
    | none => rw [hp] at hf; cases hf
    | some q =>
      rw [hp] at hf
      rw [h i q hp]
      simp only at hf ⊢
      split at hf
      · cases hf
      · rename_i hc; rw [if_neg hc]; exact ih hf

theorem does_build (hT : TOk P T) {t : TypeId} {ps : List (Nat × SV)} {pv : Array (Nat × Value)} (hR : Rel m Imm H w) (hl : ps.length = pv.size) (hp : ∀ (i : Nat) (p : Nat × SV) (q : Nat × Value), ps[i]? = some p → pv[i]? = some q → p.1 = q.1 ∧ V m p.2 q.2)
    (h : Holds (evBuild T t ps) s u) : Does P (Instr.build t pv) m Imm H w key s u := by
  unfold evBuild at h
  have hp' : ∀ (i : Nat) (p : Nat × SV) (q : Nat × Value), ps[i]? = some p → pv.toList[i]? = some q → p.1 = q.1 ∧ V m p.2 q.2 := fun i p q h1 h2 => hp i p q h1 (by simpa using h2)
  split at h
  · rename_i fs sz' by' z rk hti
    have hA := hT t _ hti
    split at h
    · rename_i cs' hc
      obtain ⟨rfl, rfl⟩ := h.ok
      obtain ⟨i, zv, h1, h2, h3, h4, h5, _⟩ := hA.info
      obtain ⟨⟨fields, hu, hf, hall⟩, _⟩ := hA.desc
      obtain ⟨places, g1, g2⟩ := places_ok hT (t := t) hf hall
      obtain ⟨arr', f1, f2⟩ := fill_ok (arr := zv.cells) hc (by rw [h5]; exact vals m z) (by simpa using hl) hp'
      have hb : P.built t pv.toList = some arr' := by
        simp only [Program.built, h1, hu, h4, g1]
        exact fill_places (fun i q h => by simpa using g2 i q h) f1
      exact .same hR (run_build w t pv arr' hb) (.agg _ _ f2)
    · exact h.fail.elim
  · rename_i n e sz' by' z rk hti
    have hA := hT t _ hti
    split at h
    · rename_i te hte
      split at h
      · rename_i cs' hc
        obtain ⟨rfl, rfl⟩ := h.ok
        obtain ⟨i, zv, h1, h2, h3, h4, h5, _⟩ := hA.info
        obtain ⟨ie, ze, e1, e2, _⟩ := (hT e _ hte).info
        obtain ⟨arr', f1, f2⟩ := fill_ok (arr := zv.cells) hc (by rw [h5]; exact vals m z) (by simpa using hl) hp'
        have hb : P.built t pv.toList = some arr' := by
          simp only [Program.built, h1, show P.underlying t = some (.array n e) from hA.desc, h4, e1, e2]
          exact f1
        exact .same hR (run_build w t pv arr' hb) (.agg _ _ f2)
      · exact h.fail.elim
    · exact h.fail.elim
  · exact h.fail.elim
end Go.Proofs.Ythbmllekbbfobaa.Sx

/-! Arithmetic, comparisons, conversions, fields, indexes, cuts. -/
namespace Go.Proofs.Ythbmllekbbfobaa.Sx
open Go
set_option linter.unusedVariables false
set_option linter.unusedSimpArgs false

variable {P : Program} {T : TT} {m : Nat → Place} {Imm : Nat → Prop} {H : VH} {w : World} {key : Nat} {s : SV} {u : List (Nat × Option VB)}

theorem does_iop {op : BinOp} {t : TypeId} {k : IntKind} {a b : Int} {ox oy : Operand} (hR : Rel m Imm H w) (h : Holds (iop op k a b) s u) :
    Does P (do eqGuard op t ox oy (.int k a) (.int k b); binOp op t (.int k a) (.int k b)) m Imm H w key s u := by
  cases op <;> simp only [iop] at h <;> first
    | (obtain ⟨rfl, rfl⟩ := h.ok; refine .same hR ?_ (.val _); simp [eqGuard, binOp, Op.intArith, Op.intBits, Op.intCmp, IntKind.wrap])
    | (obtain ⟨hc, rfl, rfl⟩ := h.vc; refine .same hR ?_ (.val _); simp [eqGuard, binOp, Op.intDiv, Op.shift, hc, IntKind.wrap, Int.not_lt.2])
    | (obtain ⟨hc, rfl, rfl⟩ := h.vc; refine .same hR ?_ (.val _); have := Int.not_lt.2 hc; simp [eqGuard, binOp, Op.intDiv, Op.shift, this, IntKind.wrap])
    | skip

theorem does_sop {op : BinOp} {t : TypeId} {a b : ByteArray} {ox oy : Operand} (hR : Rel m Imm H w) (h : Holds (sop op a b) s u) :
    Does P (do eqGuard op t ox oy (.string a) (.string b); binOp op t (.string a) (.string b)) m Imm H w key s u := by
  cases op <;> simp only [sop] at h <;> first
    | exact h.fail.elim
    | (obtain ⟨rfl, rfl⟩ := h.ok; refine .same hR ?_ (.val _); simp [eqGuard, binOp, Op.stringOp])
    | (obtain ⟨hc, rfl, rfl⟩ := h.vc; refine .same hR ?_ (.val _); have : ¬ IntKind.i64.max < ((a.size + b.size : Nat) : Int) := (by simp [IntKind.max, IntKind.signed, IntKind.bits]; omega); simp only [eqGuard, binOp, Op.stringOp]; simp; omega)

theorem eqC_ok {t : TypeId} {ti : TI} (hA : Agree P t ti) {x y : SV} {vx vy : Value} {r : Bool} (hx : V m x vx) (hy : V m y vy) (h : eqC ti.d x y = some r) (d : Nat) : (Op.equalIn (d + 1) t vx vy).run P w = .ok r w ∧ isAggT ti = false := by
  have hd := hA.desc
  unfold eqC at h
  split at h
  · cases hx; cases hy
    split at h
    · rename_i e
      rw [e] at hd
      split at h
      · rename_i hk; subst hk; obtain rfl := Option.some.inj h
        exact ⟨run_equalIn_int w d t _ _ _ _ hd, by unfold isAggT; rw [e]⟩
      · cases h
    · cases h
  · cases hx; cases hy
    split at h
    · rename_i e
      rw [e] at hd
      obtain rfl := Option.some.inj h
      exact ⟨run_equalIn_bool' w d t _ _ hd, by unfold isAggT; rw [e]⟩
    · cases h
  · cases hx; cases hy
    split at h
    · rename_i e
      rw [e] at hd
      obtain rfl := Option.some.inj h
      exact ⟨run_equalIn_string w d t _ _ hd, by unfold isAggT; rw [e]⟩
    · cases h
  · cases h

/-- '==' of plain cells, one behind the other. -/
theorem eqFields_ok (hT : TOk P T) {xs ys : Array Value} {d : Nat} (hd : 0 < d) : ∀ {fl : List Field} {j : Nat} {a b : List SV} {r : Bool}, (∀ f ∈ fl, f.name ≠ "_") → 
    Vs m a (xs.toList.drop j) → Vs m b (ys.toList.drop j) → eqF T j (fl.map fun f => (f.offset, f.type)) a b = some r → (Op.eqFields d xs ys fl).run P w = .ok r w := by
  obtain ⟨d, rfl⟩ : ∃ e, d = e + 1 := ⟨d - 1, by omega⟩
  intro fl
  induction fl with
  | nil =>
    intro j a b r _ h1 h2 h3
    cases a <;> cases b <;> simp [eqF] at h3
    subst h3; simp [Op.eqFields]
  | cons f fl ih =>
    intro j a b r hn h1 h2 h3
    cases a with
    | nil => simp [eqF] at h3
    | cons x a =>
      cases b with
      | nil => simp [eqF] at h3
      | cons y b =>
        simp only [List.map_cons, eqF] at h3
        cases hj : Nat.beq f.offset j with
        | false => rw [hj] at h3; cases h3
        | true =>
          rw [hj] at h3
          have hj' := Nat.eq_of_beq_eq_true hj
          subst hj'
          simp only [cond_true] at h3
          split at h3
          · rename_i ti hti
            split at h3
            · rename_i r1 r2 e1 e2
              obtain rfl := Option.some.inj h3
              obtain ⟨vx, hx0, hvx⟩ := h1.get (i := 0) (by rfl)
              obtain ⟨vy, hy0, hvy⟩ := h2.get (i := 0) (by rfl)
              rw [List.getElem?_drop, Nat.add_zero] at hx0 hy0
              have t1 : Vs m a (xs.toList.drop (f.offset + 1)) := by have := h1.drop 1; simpa using this
              have t2 : Vs m b (ys.toList.drop (f.offset + 1)) := by have := h2.drop 1; simpa using this
              have hrest := ih (fun g hg => hn g (List.mem_cons_of_mem _ hg)) t1 t2 e2
              have hname := hn f List.mem_cons_self
              obtain ⟨he, hag⟩ := eqC_ok (w := w) (hT _ ti hti) hvx hvy e1 d
              have px : ∀ (arr : Array Value) (v : Value), arr.toList[f.offset]? = some v → (Go.part f.type arr f.offset).run P w = .ok v w := by
                intro arr v hv
                obtain ⟨_, _, hg⟩ := (hT _ ti hti).desc.agg
                have hv' : arr[f.offset]? = some v := by simpa using hv
                simp [Go.part, hg w, hag, hv']
              simp only [Op.eqFields, hname, ne_eq, not_false_eq_true, if_true, Sem.run_bind, px xs vx hx0, px ys vy hy0, Result.andThen_ok, he]
              cases r1
              · simp
              · simpa using hrest
            · cases h3
          · cases h3

theorem does_shift {op : BinOp} (ho : op = .shl ∨ op = .shr) {t : TypeId} {k k' : IntKind} {a b : Int} {ox oy : Operand} (hR : Rel m Imm H w) (h : Holds (iop op k a b) s u) :
    Does P (do eqGuard op t ox oy (.int k a) (.int k' b); binOp op t (.int k a) (.int k' b)) m Imm H w key s u := by
  rcases ho with rfl | rfl <;> simp only [iop] at h <;> (obtain ⟨hc, rfl, rfl⟩ := h.vc; refine .same hR ?_ (.val _); have := Int.not_lt.2 hc; simp [eqGuard, binOp, Op.shift, this, IntKind.wrap])
theorem nilP_ok {x : SV} {v : Value} {b : Bool} (hx : V m x v) (h : nilP x = some b) : ∃ a, v = .pointer a ∧ a.isNone = b := by
  unfold nilP at h
  split at h
  · cases hx; cases h; exact ⟨_, rfl, rfl⟩
  · cases hx; cases h; exact ⟨_, rfl, rfl⟩
  · cases hx; cases h; exact ⟨_, rfl, rfl⟩
  · cases h
theorem run_equalIn_ptr {t e : TypeId} {a b : Option Addr} {r : Bool} (hu : P.underlying t = some (.pointer e)) (hab : (a.isNone = true ∧ b.isNone = r) ∨ (a.isNone = false ∧ b.isNone = true ∧ r = false)) (d : Nat) :
    (Op.equalIn (d + 1) t (.pointer a) (.pointer b)).run P w = .ok r w := by
  rcases hab with ⟨h1, h2⟩ | ⟨h1, h2, rfl⟩
  · cases a with
    | none => simp only [Op.equalIn, Sem.run_bind, run_underlying hu, Result.andThen_ok, Sem.run_pure, h2]
    | some _ => simp at h1
  · cases a with
    | none => simp at h1
    | some _ =>
      cases b with
      | none => simp only [Op.equalIn, Sem.run_bind, run_underlying hu, Result.andThen_ok, Sem.run_pure]
      | some _ => simp at h2
theorem does_eqR {op : BinOp} {t e : TypeId} {a b : Option Addr} {r : Bool} {ox oy : Operand} (hR : Rel m Imm H w) (hu : P.underlying t = some (.pointer e)) (hab : (a.isNone = true ∧ b.isNone = r) ∨ (a.isNone = false ∧ b.isNone = true ∧ r = false)) (h : Holds (eqR op r) s u) :
    Does P (do eqGuard op t ox oy (.pointer a) (.pointer b); binOp op t (.pointer a) (.pointer b)) m Imm H w key s u := by
  have he : (Op.equal t (.pointer a) (.pointer b)).run P w = .ok r w := by
    exact run_equalIn_ptr hu hab 9999
  cases op <;> simp only [eqR] at h <;> first
    | exact h.fail.elim
    | (obtain ⟨rfl, rfl⟩ := h.ok; refine .same hR ?_ (.val _); simp [eqGuard, binOp, he])
theorem does_bin (hT : TOk P T) {op : BinOp} {t : TypeId} {x y : SV} {vx vy : Value} {ox oy : Operand} (hR : Rel m Imm H w) (hx : V m x vx) (hy : V m y vy) (h : Holds (evBin T op t x y) s u) :
    Does P (do eqGuard op t ox oy vx vy; binOp op t vx vy) m Imm H w key s u := by
  unfold evBin at h
  split at h
  · cases hx; cases hy
    have keep : ∀ {op : BinOp} {k k' : IntKind} {a b : Int}, Holds (if k = k' then iop op k a b else .fail "binOp: kinds") s u → Does P (do eqGuard op t ox oy (.int k a) (.int k' b); binOp op t (.int k a) (.int k' b)) m Imm H w key s u := by
      intro op k k' a b h
      split at h
      · rename_i hk; subst hk; exact does_iop hR h
      · exact h.fail.elim
    cases op <;> first
      | exact does_shift (.inl rfl) hR h
      | exact does_shift (.inr rfl) hR h
      | exact keep h
  · cases hx; cases hy; exact does_sop hR h
  · cases hx; cases hy
    split at h
    · rename_i hti
      have hd : P.underlying t = some .bool := (hT t _ hti).desc
      obtain ⟨rfl, rfl⟩ := h.ok; refine .same hR ?_ (.val _)
      simp [eqGuard, binOp, Op.equal, Op.maxDepth, run_equalIn_bool' w 9999 t _ _ hd]
    · rename_i hti
      have hd : P.underlying t = some .bool := (hT t _ hti).desc
      obtain ⟨rfl, rfl⟩ := h.ok; refine .same hR ?_ (.val _)
      simp [eqGuard, binOp, Op.equal, Op.maxDepth, run_equalIn_bool' w 9999 t _ _ hd]
    · exact h.fail.elim
  · rename_i a b
    cases hx with
    | agg _ xs hxs =>
    cases hy with
    | agg _ ys hys =>
    split at h
    · rename_i fs sz' by' z rk hti
      obtain ⟨⟨fields, hu, hf, hall⟩, hst, heq⟩ := (hT t _ hti).desc
      have hfo : P.fieldsOf t = fields := by simp [Program.fieldsOf, hu]
      have run : ∀ r, eqF T 0 fs a b = some r → (Op.equalIn 10000 t (.agg xs) (.agg ys)).run P w = .ok r w := by
        intro r hr
        rw [run_equalIn_agg w 9999 t xs ys (by rw [hfo]; exact hu) hst, hfo]
        refine eqFields_ok (m := m) (j := 0) hT (by omega) (fun f hf => (hall f hf).1) (by simpa using hxs) (by simpa using hys) ?_
        rw [hf]; exact hr
      split at h
      · rename_i r hr
        obtain ⟨rfl, rfl⟩ := h.ok; refine .same hR ?_ (.val _)
        rw [Sem.run_bind, run_eqGuard_agg w _ t ox oy xs ys heq, Result.andThen_ok, run_eql_struct, run r hr]; rfl
      · rename_i r hr
        obtain ⟨rfl, rfl⟩ := h.ok; refine .same hR ?_ (.val _)
        rw [Sem.run_bind, run_eqGuard_agg w _ t ox oy xs ys heq, Result.andThen_ok, run_neq_struct, run r hr]; rfl
      · exact h.fail.elim
    · exact h.fail.elim
  · split at h
    · rename_i hti
      obtain ⟨e, hu⟩ := (hT t _ hti).desc
      split at h
      · rename_i b h1 h2
        obtain ⟨a1, rfl, e1⟩ := nilP_ok hx h1
        obtain ⟨a2, rfl, e2⟩ := nilP_ok hy h2
        exact does_eqR hR hu (.inl ⟨e1, e2⟩) h
      · rename_i h1 h2
        obtain ⟨a1, rfl, e1⟩ := nilP_ok hx h1
        obtain ⟨a2, rfl, e2⟩ := nilP_ok hy h2
        exact does_eqR hR hu (.inr ⟨e1, e2, rfl⟩) h
      · exact h.fail.elim
    · exact h.fail.elim

theorem does_un {op : UnOp} {x : SV} {vx : Value} (hR : Rel m Imm H w) (hx : V m x vx) (h : Holds (evUn op x) s u) : Does P (Op.unary op vx) m Imm H w key s u := by
  unfold evUn at h
  split at h
  · cases hx; obtain ⟨rfl, rfl⟩ := h.ok; exact .same hR (by simp [Op.unary, Op.intArith]) (.val _)
  · cases hx; obtain ⟨rfl, rfl⟩ := h.ok; exact .same hR (by simp [Op.unary]) (.val _)
  · exact h.fail.elim

/-- What a slice shows, in memory. -/
theorem slice_read (hR : Rel m Imm H w) {x : SV} {v : Value} {k : RK} {ys : List (El k)} (hx : V m x v) (h : sliceOf H x = some ⟨k, ys⟩) :
    ∃ (a : Option Addr) (c : Nat), v = .slice a ys.length c ∧ ys.length ≤ c ∧ (ys ≠ [] → ∃ blk off, a = some ⟨blk, off, none⟩ ∧ Reads Imm w ⟨blk, off, sz k, c, ys.length⟩ k ys) := by
  unfold sliceOf at h
  split at h
  · rename_i b
    split at h
    · rename_i own k' xs hb
      obtain ⟨rfl, h⟩ := Sigma.mk.inj (Option.some.inj h)
      obtain rfl := eq_of_heq h
      obtain ⟨p1, p2, p3, p4, _⟩ := hR.hold b _ hb
      cases hx with
      | slF _ c h1 h2 => exact ⟨_, c, by rw [p2], by omega, fun _ => ⟨_, _, rfl, p4⟩⟩
      | slF0 _ a h1 =>
        have : xs = [] := List.length_eq_zero_iff.1 (by omega)
        subst this
        exact ⟨a, 0, rfl, Nat.le_refl _, fun h => absurd rfl h⟩
    · cases h
  · rename_i b i n
    split at h
    · rename_i own k' xs hb
      obtain ⟨rfl, h⟩ := Sigma.mk.inj (Option.some.inj h)
      obtain rfl := eq_of_heq h
      obtain ⟨p1, p2, p3, p4, _⟩ := hR.hold b _ hb
      cases hx with
      | slP _ _ _ c h1 h2 h3 _ =>
        have hl : ((xs.drop i).take n).length = n := by simp; omega
        refine ⟨_, c, by rw [hl], by omega, fun _ => ⟨_, _, rfl, ?_⟩⟩
        intro i' j e hi' he
        rw [hl] at hi'
        have get : ((xs.drop i).take n).getD i' (zK k') = xs.getD (i + i') (zK k') := by
          simp only [List.getD, List.getElem?_take, if_pos hi', List.getElem?_drop]
        rw [get] at he
        obtain ⟨v, h7, h8⟩ := p4 (i + i') j e (by omega) he
        refine ⟨v, ?_, h8⟩
        rw [← h7]
        show w.cell? ⟨(m b).blk, (m b).off + i * (m b).sz + (i' * sz k' + j), none⟩ = _
        rw [p1, Nat.add_mul]
        congr 2
        omega
      | slP0 _ _ a _ => exact ⟨a, 0, by simp, by simp, fun h => by simp at h⟩
    · cases h
  · cases h

/-- The cells of a slice's elements, one behind the other. -/
theorem slice_cells {a : Option Addr} {c : Nat} {k : RK} {ys : List (El k)} (h : ys ≠ [] → ∃ blk off, a = some ⟨blk, off, none⟩ ∧ Reads Imm w ⟨blk, off, sz k, c, ys.length⟩ k ys) :
    ∃ lst : List Value, lst.length = ys.length * sz k ∧ (∀ ad, a = some ad → ∀ (j : Nat) (v : Value), lst[j]? = some v → w.cell? (ad.add j) = some v) ∧ (a = none → lst = []) ∧
      ∀ (j : Nat) (e : CS), (ys.flatMap (enc k))[j]? = some e → ∃ v, lst[j]? = some v ∧ CV Imm w e v := by
  by_cases hy : ys = []
  · subst hy; exact ⟨[], by simp, by simp, by simp, by simp⟩
  · obtain ⟨blk, off, rfl, hr⟩ := h hy
    obtain ⟨lst, l1, l2, l3⟩ := row_cells (Imm := Imm) (w := w) (p := ⟨blk, off, sz k, c, ys.length⟩) (k := k) (xs := ys) (o := off) (fun i j e h1 h2 => hr i j e h1 h2)
    exact ⟨lst, l1, fun ad h j v hv => by obtain rfl := Option.some.inj h; rw [Addr.add_mid]; exact l2 j v hv, by simp, l3⟩
theorem enc_flat_u8 (xs : List Int) : (xs.flatMap (enc .u8)) = xs.map fun n => CS.v (.int .u8 n) := by
  induction xs with
  | nil => rfl
  | cons x xs ih => rw [List.flatMap_cons, ih]; rfl
theorem bytesStr_eq (xs : List Int) : bytesStr xs = xs.foldl (fun r n => r.push (UInt8.ofNat n.toNat)) ByteArray.empty := by
  have key : ∀ (l : List Int) (r : ByteArray), l.foldl (fun r n => r.push (UInt8.ofNat n.toNat)) r = ⟨(r.data.toList ++ l.map fun n => UInt8.ofNat n.toNat).toArray⟩ := by
    intro l
    induction l with
    | nil => intro r; simp
    | cons x l ih => intro r; rw [List.foldl_cons, ih]; simp [ByteArray.push]
  rw [key]
  simp [bytesStr, ByteArray.empty, ByteArray.emptyWithCapacity]; rfl
theorem does_conv (hT : TOk P T) {src dst : TypeId} {x : SV} {vx : Value} (hR : Rel m Imm H w) (hx : V m x vx) (h : Holds (evConv T src dst x H key) s u) : Does P (convert src dst vx) m Imm H w key s u := by
  unfold evConv at h
  split at h
  · rename_i ti _ _ _ _ _ _ hs hd
    obtain ⟨rfl, rfl⟩ := h.ok
    cases hx
    obtain ⟨d, hu, _⟩ := (hT src _ hs).desc.agg
    have hud : P.underlying dst = some (.int _) := (hT dst _ hd).desc
    exact .same hR (by simp [convert, run_underlying hu, run_underlying hud, Conv.intToInt]) (.val _)
  · rename_i ti _ _ _ _ _ hs hd
    obtain ⟨rfl, rfl⟩ := h.ok
    cases hx
    obtain ⟨d, hu, _⟩ := (hT src _ hs).desc.agg
    have hud : P.underlying dst = some .string := (hT dst _ hd).desc
    exact .same hR (by simp [convert, run_underlying hu, run_underlying hud]) (.val _)
  · rename_i e _ _ _ _ _ _ _ _ hs hd _
    have hus : P.underlying src = some (.slice e) := (hT src _ hs).desc
    have hud : P.underlying dst = some .string := (hT dst _ hd).desc
    split at h
    · rename_i hte
      have hue : P.underlying e = some (.int .u8) := (hT e _ hte).desc
      split at h
      · obtain ⟨rfl, rfl⟩ := h.ok
        cases hx
        exact .same hR (run_convert_bytes_nil w src e hus hue 0 0 dst hud) (.val _)
      · split at h
        · rename_i xs hsl
          obtain ⟨rfl, rfl⟩ := h.ok
          obtain ⟨a, c, rfl, h1, h2⟩ := slice_read hR hx hsl
          obtain ⟨lst, l1, l2, l3, l4⟩ := slice_cells h2
          have hlst : lst = xs.map (Value.int .u8) := by
            rw [enc_flat_u8] at l4
            apply List.ext_getElem?
            intro j
            by_cases hj : j < xs.length
            · obtain ⟨v, h5, h6⟩ := l4 j _ (by rw [List.getElem?_map, List.getElem?_eq_getElem hj]; rfl)
              cases h6
              rw [h5, List.getElem?_map, List.getElem?_eq_getElem hj]; rfl
            · rw [List.getElem?_eq_none (by rw [l1]; simp [sz]; omega), List.getElem?_eq_none (by simp; omega)]
          refine .same hR ?_ (.val _)
          cases a with
          | none =>
            have : xs = [] := by have := l3 rfl; rw [hlst] at this; simpa using this
            subst this
            exact run_convert_bytes_nil w src e hus hue _ c dst hud
          | some ad =>
            have hl : (loadCells ad xs.length).run P w = .ok (xs.map (Value.int .u8)).toArray w := by
              have := run_loadCells_list (P := P) w ad lst (l2 ad rfl)
              rw [hlst] at this
              simpa using this
            rw [run_convert_bytes_string w src dst e _ _ c hus hue hud, run_bytesToString w ad _ c xs hl, bytesStr_eq]
        · exact h.fail.elim
    · exact h.fail.elim
  · exact h.fail.elim
end Go.Proofs.Ythbmllekbbfobaa.Sx

/-! Places: fields, elements, cuts, lengths. -/
namespace Go.Proofs.Ythbmllekbbfobaa.Sx
open Go
set_option linter.unusedVariables false
set_option linter.unusedSimpArgs false

variable {P : Program} {T : TT} {m : Nat → Place} {Imm : Nat → Prop} {H : VH} {w : World} {key : Nat} {s : SV} {u : List (Nat × Option VB)}

theorem run_fieldAt {t : TypeId} {fields : Array Field} {f : Field} {i : Nat} (hu : P.underlying t = some (.struct fields)) (hf : fields[i]? = some f) (hall : ∃ ti, P.info? f.type = some ti ∧ ti.size ≠ 0) (b o : Nat) :
    (Instr.fieldAt t (.pointer (some ⟨b, o, none⟩)) i).run P w = .ok (.pointer (some ⟨b, o + f.offset, none⟩)) w := by
  obtain ⟨ti, h1, h2⟩ := hall
  simp [Instr.fieldAt, run_underlying hu, hf, Instr.sureAddr, fieldPlace, run_sizeOf' h1, h2, Addr.add_mid]

theorem field_at {fields : Array Field} {fs : List (Nat × TypeId)} {i o : Nat} {t : TypeId} (hf : fields.toList.map (fun f => (f.offset, f.type)) = fs) (h : fs[i]? = some (o, t)) : ∃ f, fields[i]? = some f ∧ f.offset = o ∧ f.type = t ∧ f ∈ fields.toList := by
  subst hf
  rw [List.getElem?_map] at h
  cases hq : fields.toList[i]? with
  | none => rw [hq] at h; cases h
  | some f =>
    rw [hq] at h
    simp at h
    exact ⟨f, by simpa using hq, h.1, h.2, List.mem_of_getElem? hq⟩

theorem does_fieldAddr (hT : TOk P T) {t : TypeId} {x : SV} {vx : Value} {i : Nat} (hR : Rel m Imm H w) (hx : V m x vx) (h : Holds (evFieldAddr T t x i) s u) : Does P (Instr.fieldAt t vx i) m Imm H w key s u := by
  unfold evFieldAddr at h
  split at h
  · rename_i fs _ _ _ _ hti
    obtain ⟨⟨fields, hu, hf, hall⟩, _⟩ := (hT t _ hti).desc
    split at h
    · rename_i o ft b j hi
      obtain ⟨rfl, rfl⟩ := h.ok
      obtain ⟨f, h1, rfl, rfl, h2⟩ := field_at hf hi
      cases hx
      refine .same hR (run_fieldAt hu h1 (hall f h2).2 _ _) ?_
      have := V.ptr (m := m) b (j + f.offset)
      rwa [← Nat.add_assoc] at this
    · rename_i o ft b k j hi
      obtain ⟨rfl, rfl⟩ := h.ok
      obtain ⟨f, h1, rfl, rfl, h2⟩ := field_at hf hi
      cases hx with
      | elt _ _ _ h0 =>
        refine .same hR (run_fieldAt hu h1 (hall f h2).2 _ _) ?_
        have := V.elt (m := m) b k (j + f.offset) h0
        rwa [← Nat.add_assoc, ← Nat.add_assoc, Nat.add_assoc (m b).off] at this
    · exact h.fail.elim
  · exact h.fail.elim

theorem extract_toList (a : Array Value) (o n : Nat) : (a.extract o (o + n)).toList = (a.toList.drop o).take n := by
  rw [Array.toList_extract]
  simp [List.extract_eq_take_drop]
theorem does_field (hT : TOk P T) {t : TypeId} {x : SV} {vx : Value} {i : Nat} (hR : Rel m Imm H w) (hx : V m x vx) (h : Holds (evField T t x i) s u) : Does P (Instr.field t vx i) m Imm H w key s u := by
  unfold evField at h
  split at h
  · rename_i fs _ _ _ _ cs hti
    obtain ⟨⟨fields, hu, hf, hall⟩, _⟩ := (hT t _ hti).desc
    cases hx with
    | agg _ vs hvs =>
    split at h
    · rename_i o ft hi
      obtain ⟨f, h1, rfl, rfl, h2⟩ := field_at hf hi
      split at h
      · rename_i ti hft
        simp only at h
        have hA := hT _ ti hft
        cases hq : Nat.beq (lenN ((cs.drop f.offset).take ti.size)) ti.size with
        | false => rw [hq] at h; exact h.fail.elim
        | true =>
          rw [hq] at h
          have hl := Nat.eq_of_beq_eq_true hq
          rw [lenN_eq] at hl
          obtain ⟨rfl, h3⟩ := one_ok h
          have hs := (hvs.drop f.offset).take ti.size
          obtain ⟨_, _, hg⟩ := hA.desc.agg
          obtain ⟨inf, z, i1, i2, _⟩ := hA.info
          rcases h3 with ⟨ha, rfl⟩ | ⟨ha, h3⟩
          · refine .same hR (v := .agg (vs.extract f.offset (f.offset + ti.size))) ?_ (.agg _ _ ?_)
            · simp [Instr.field, run_underlying hu, h1, asAgg, Go.part, hg w, ha, run_sizeOf' i1, i2]
            · rw [extract_toList]; exact hs
          · rw [h3] at hs
            obtain ⟨v, g1, g2⟩ := hs.get (i := 0) rfl
            rw [List.getElem?_take] at g1
            split at g1
            · rw [List.getElem?_drop, Nat.add_zero] at g1
              have g1' : vs[f.offset]? = some v := by simpa using g1
              exact .same hR (by simp [Instr.field, run_underlying hu, h1, asAgg, Go.part, hg w, ha, g1']) g2
            · cases g1
      · exact h.fail.elim
    · exact h.fail.elim
  · exact h.fail.elim

theorem kindIs_ok (hT : TOk P T) {e : TypeId} {k : RK} (h : kindIs T e k = true) : ∃ ti i, lkN T e = some ti ∧ ti.rk = some k ∧ P.info? e = some i ∧ i.size = sz k := by
  unfold kindIs kindE at h
  cases hq : lkN T e with
  | none => rw [hq] at h; cases h
  | some ti =>
    rw [hq] at h
    simp only at h
    cases hr : ti.rk with
    | none => rw [hr] at h; cases h
    | some k' =>
      rw [hr] at h
      simp only [decide_eq_true_eq] at h
      subst h
      have hA := hT e ti hq
      obtain ⟨i, z, h1, h2, _⟩ := hA.info
      exact ⟨ti, i, rfl, hr, h1, by rw [h2]; exact (hA.kind k' hr).1⟩
theorem run_indexAt_slice {t e : TypeId} {inf : TypeInfo} {k : IntKind} {i : Int} {b o n c : Nat} (hu : P.underlying t = some (.slice e)) (hi : P.info? e = some inf) (h0 : 0 ≤ i) (h1 : i < n) :
    (Instr.indexAt t (.slice (some ⟨b, o, none⟩) n c) (.int k i)).run P w = .ok (.pointer (some ⟨b, o + i.toNat * inf.size, none⟩)) w := by
  simp [Instr.indexAt, asIntOf, run_underlying hu, h0, h1, run_sizeOf' hi, Addr.add_mid]
theorem run_indexAt_array {t e : TypeId} {inf : TypeInfo} {k : IntKind} {i : Int} {b o n : Nat} (hu : P.underlying t = some (.array n e)) (hi : P.info? e = some inf) (h0 : 0 ≤ i) (h1 : i < n) :
    (Instr.indexAt t (.pointer (some ⟨b, o, none⟩)) (.int k i)).run P w = .ok (.pointer (some ⟨b, o + i.toNat * inf.size, none⟩)) w := by
  simp [Instr.indexAt, asIntOf, run_underlying hu, Instr.sureAddr, h0, h1, run_sizeOf' hi, Addr.add_mid]
theorem idxC_ok {b z : Nat} {i : Int} : ∀ (n j : Nat), Holds (idxC b z i n j) s u → ∃ k : Nat, i = k ∧ k < j + n ∧ s = .ptr b (k * z) ∧ u = []
  | 0, j, h => h.fail.elim
  | 1, j, h => by
    obtain ⟨rfl, rfl, rfl⟩ := h.vc
    exact ⟨j, rfl, by omega, rfl, rfl⟩
  | m + 2, j, h => by
    simp only [idxC, fN_eq] at h
    rcases h.br with ⟨e, h⟩ | ⟨e, h⟩
    · obtain ⟨rfl, rfl⟩ := h.ok
      exact ⟨j, by simpa using e, by omega, rfl, rfl⟩
    · obtain ⟨k, h1, h2, h3, h4⟩ := idxC_ok (m + 1) (j + 1) h
      exact ⟨k, h1, by omega, h3, h4⟩
theorem does_indexAddr (hT : TOk P T) {t : TypeId} {x ix : SV} {vx vi : Value} (hR : Rel m Imm H w) (hx : V m x vx) (hi : V m ix vi) (h : Holds (evIndexAddr T t x ix H) s u) : Does P (Instr.indexAt t vx vi) m Imm H w key s u := by
  unfold evIndexAddr at h
  split at h
  · rename_i n e _ _ _ _ b k i hti
    have hu : P.underlying t = some (.array n e) := (hT t _ hti).desc
    cases hx; cases hi
    split at h
    · rename_i own kk xs hb
      cases hq : kindIs T e kk with
      | false => rw [hq] at h; exact h.fail.elim
      | true =>
        rw [hq] at h
        obtain ⟨⟨h0, h1⟩, rfl, rfl⟩ := h.vc
        obtain ⟨_, inf, _, _, i1, i2⟩ := kindIs_ok hT hq
        have hsz : (m b).sz = sz kk := (hR.hold b _ hb).1
        refine .same hR (run_indexAt_array hu i1 h0 h1) ?_
        have := V.elt (m := m) b i 0 h0
        rw [hsz] at this
        rw [i2]
        simpa using this
    · exact h.fail.elim
  · rename_i e _ _ _ _ b k i hti
    have hu : P.underlying t = some (.slice e) := (hT t _ hti).desc
    cases hi
    split at h
    · rename_i own kk xs hb
      cases hq : kindIs T e kk with
      | false => rw [hq] at h; exact h.fail.elim
      | true =>
        rw [hq] at h
        obtain ⟨⟨h0, h1⟩, rfl, rfl⟩ := h.vc
        obtain ⟨_, inf, _, _, i1, i2⟩ := kindIs_ok hT hq
        obtain ⟨hsz, hlen, _⟩ := hR.hold b _ hb
        cases hx with
        | slF _ c g1 g2 =>
          refine .same hR (run_indexAt_slice hu i1 h0 (by rw [hlen]; exact h1)) ?_
          have := V.elt (m := m) b i 0 h0
          rw [hsz] at this
          rw [i2]
          simpa using this
        | slF0 _ _ g => omega
    · exact h.fail.elim
  · rename_i e _ _ _ _ b j n k i hti
    have hu : P.underlying t = some (.slice e) := (hT t _ hti).desc
    cases hi
    split at h
    · rename_i own kk xs hb
      cases hq : kindIs T e kk with
      | false => rw [hq] at h; exact h.fail.elim
      | true =>
        rw [hq] at h
        obtain ⟨⟨h0, h1⟩, rfl, rfl⟩ := h.vc
        obtain ⟨_, inf, _, _, i1, i2⟩ := kindIs_ok hT hq
        obtain ⟨hsz, hlen, _⟩ := hR.hold b _ hb
        cases hx with
        | slP _ _ _ c g1 g2 g3 =>
          refine .same hR (run_indexAt_slice hu i1 h0 h1) ?_
          have := V.elt (m := m) b (j + i) 0 (by omega)
          rw [hsz] at this ⊢
          rw [i2]
          have e : (j + i : Int).toNat * sz kk = j * sz kk + i.toNat * sz kk := by rw [← Nat.add_mul]; congr 1; omega
          rw [e] at this
          simpa [Nat.add_assoc] using this
        | slP0 _ _ a _ => omega
    · exact h.fail.elim
  · rename_i e _ _ _ _ b n k i hti
    have hu : P.underlying t = some (.slice e) := (hT t _ hti).desc
    cases hi
    cases hx with
    | slC _ _ c hc =>
    split at h
    · rename_i ti hte
      cases hq : Nat.blt 0 ti.size with
      | false => rw [hq] at h; exact h.fail.elim
      | true =>
        rw [hq] at h
        obtain ⟨inf, z, i1, i2, _⟩ := (hT e ti hte).info
        obtain ⟨j, h0, h1, rfl, rfl⟩ := idxC_ok n 0 h
        refine .same hR (run_indexAt_slice hu i1 (by omega) (by omega)) ?_
        rw [i2, h0, Int.toNat_natCast]
        exact .ptr b (j * ti.size)
    · exact h.fail.elim
  · exact h.fail.elim

theorem does_index (hT : TOk P T) {t : TypeId} {x ix : SV} {vx vi : Value} (hR : Rel m Imm H w) (hx : V m x vx) (hi : V m ix vi) (h : Holds (evIndex T t x ix) s u) : Does P (Instr.index t vx vi) m Imm H w key s u := by
  unfold evIndex at h
  split at h
  · rename_i str k i hti
    have hu : P.underlying t = some .string := (hT t _ hti).desc
    cases hx; cases hi
    obtain ⟨⟨h0, h1⟩, rfl, rfl⟩ := h.vc
    have hlt : i.toNat < str.size := by omega
    refine .same hR ?_ (.val _)
    have hg : str[i.toNat]? = some str[i.toNat] := by simp [hlt]
    simp [Instr.index, asIntOf, run_underlying hu, h0, bt, hlt]
  · exact h.fail.elim

theorem run_bounds {lo hi : Option SV} {vlo vhi : Option Value} {n c l h : Nat} {pc : Prop} {isS : Bool} (hb : bounds lo hi n = some (pc, l, h)) (hpc : pc) (hnc : n ≤ c)
    (hl : ∀ x, lo = some x → ∃ v, vlo = some v ∧ V m x v) (hl0 : lo = none → vlo = none) (hh : ∀ x, hi = some x → ∃ v, vhi = some v ∧ V m x v) (hh0 : hi = none → vhi = none) :
    (Instr.sliceBounds isS n c vlo vhi none).run P w = .ok (l, h, c) w ∧ l ≤ h ∧ h ≤ n := by
  unfold bounds at hb
  split at hb
  · cases hb
    obtain ⟨v, rfl, hv⟩ := hl _ rfl
    cases hv
    obtain rfl := hh0 rfl
    refine ⟨?_, by omega, Nat.le_refl _⟩
    simp [Instr.sliceBounds, run_sliceBound, hpc.1, hpc.2]
  · cases hb
    obtain ⟨v, rfl, hv⟩ := hh _ rfl
    cases hv
    obtain rfl := hl0 rfl
    refine ⟨?_, by omega, by omega⟩
    have : (_ : Int) ≤ (c : Int) := Int.le_trans hpc.2 (by omega)
    simp [Instr.sliceBounds, run_sliceBound, hpc.1, this]
  · cases hb
    obtain ⟨v, rfl, hv⟩ := hl _ rfl
    cases hv
    obtain ⟨v, rfl, hv⟩ := hh _ rfl
    cases hv
    rename_i kl l kh h
    refine ⟨?_, by omega, by omega⟩
    have h1 : h ≤ (c : Int) := by omega
    have h2 : 0 ≤ h := by omega
    have h3 : l ≤ (h.toNat : Int) := by omega
    have e := run_sliceBound (P := P) w kl l h.toNat .sliceB hpc.1 h3
    simp [Instr.sliceBounds, run_sliceBound w kh h c _ h2 h1, e]
  · cases hb

/-- An optional operand's value. -/
def OptV (m : Nat → Place) (x : Option SV) (v : Option Value) : Prop := (∀ y, x = some y → ∃ v', v = some v' ∧ V m y v') ∧ (x = none → v = none)

theorem V.cut {b i n : Nat} {v : Value} (h : V m (.slP b i n) v) : ∃ a c, v = .slice a n c ∧ n ≤ c ∧ (n ≠ 0 ∨ c ≠ 0 → a = some ⟨(m b).blk, (m b).off + i * (m b).sz, none⟩ ∧ i + c ≤ (m b).cap ∧ i + n ≤ (m b).len) ∧ (m b).len ≤ i + c := by
  cases h with
  | slP _ _ _ c h1 h2 h3 h4 => exact ⟨_, c, rfl, h1, fun _ => ⟨rfl, h2, h3⟩, h4⟩
  | slP0 _ _ a hx => exact ⟨_, 0, rfl, Nat.le_refl _, fun h => by simp at h, hx⟩
theorem V.whole {b : Nat} {v : Value} (h : V m (.slF b) v) : ∃ a c, v = .slice a (m b).len c ∧ (m b).len ≤ c ∧ ((m b).len ≠ 0 ∨ c ≠ 0 → a = some ⟨(m b).blk, (m b).off, none⟩ ∧ c ≤ (m b).cap) := by
  cases h with
  | slF _ c h1 h2 => exact ⟨_, c, rfl, h1, fun _ => ⟨rfl, h2⟩⟩
  | slF0 _ a h1 => rw [h1]; exact ⟨a, 0, rfl, Nat.le_refl _, fun h => by simp at h⟩

theorem run_cut {t e : TypeId} {inf : TypeInfo} (hu : P.underlying t = some (.slice e)) (hi : P.info? e = some inf) {a : Option Addr} {n c l h : Nat} {vlo vhi : Option Value} (hb : (Instr.sliceBounds true n c vlo vhi none).run P w = .ok (l, h, c) w) :
    (Instr.sliceAt t (.slice a n c) vlo vhi none).run P w = .ok (.slice (if c = l then a else a.map (·.add (l * inf.size))) (h - l) (c - l)) w := by
  simp [Instr.sliceAt, Instr.slice, run_underlying hu, hb, run_sizeOf' hi]
/-- A cut of a cut. -/
theorem cut_value {b i l h c : Nat} {a : Option Addr} {sz' : Nat} (hs : (m b).sz = sz') (hlh : l ≤ h) (hhc : h ≤ c) (hc : c ≠ 0 → a = some ⟨(m b).blk, (m b).off + i * (m b).sz, none⟩ ∧ i + c ≤ (m b).cap) (hh : c ≠ 0 → i + h ≤ (m b).len)
    (hx : (m b).len ≤ i + c) : V m (.slP b (i + l) (h - l)) (.slice (if c = l then a else a.map (·.add (l * sz'))) (h - l) (c - l)) := by
  by_cases hcl : c = l
  · rw [if_pos hcl]
    have e1 : h - l = 0 := by omega
    have e2 : c - l = 0 := by omega
    rw [e1, e2]
    exact .slP0 _ _ a (by omega)
  · rw [if_neg hcl]
    have hc0 : c ≠ 0 := by omega
    obtain ⟨rfl, h2⟩ := hc hc0
    have := V.slP (m := m) b (i + l) (h - l) (c - l) (by omega) (by omega) (by have := hh hc0; omega) (by omega)
    simp only [Option.map_some, Addr.add_mid]
    rw [← hs, Nat.add_assoc, ← Nat.add_mul]
    exact this

/-- A slice of a slice may reach behind its end. -/
theorem run_boundsX {lo hi : Option SV} {vlo vhi : Option Value} {n lim c l h : Nat} {pc : Prop} (hb : boundsX lo hi n lim = some (pc, l, h)) (hpc : pc) (hnc : n ≤ c) (hlc : lim ≤ c) (hnl : n ≤ lim)
    (hl : ∀ x, lo = some x → ∃ v, vlo = some v ∧ V m x v) (hl0 : lo = none → vlo = none) (hh : ∀ x, hi = some x → ∃ v, vhi = some v ∧ V m x v) (hh0 : hi = none → vhi = none) :
    (Instr.sliceBounds true n c vlo vhi none).run P w = .ok (l, h, c) w ∧ l ≤ h ∧ h ≤ lim := by
  unfold boundsX at hb
  split at hb
  · obtain ⟨h1, h2, h3⟩ := run_bounds (P := P) (w := w) (isS := true) hb hpc hnc hl hl0 hh hh0
    exact ⟨h1, h2, by omega⟩
  · obtain ⟨h1, h2, h3⟩ := run_bounds (P := P) (w := w) (isS := true) hb hpc hlc hl hl0 hh hh0
    refine ⟨?_, h2, h3⟩
    -- the length is not looked at
    rename_i x
    obtain ⟨v, rfl, hv⟩ := hh _ rfl
    simpa [Instr.sliceBounds] using h1
theorem run_max {mx : SV} {vmx : Value} {lo hi : Option SV} {vlo vhi : Option Value} {n lim c : Nat} {pc : Prop} (hb : boundsM lo hi mx lim = some pc) (hpc : pc) (hlc : lim ≤ c)
    (hl : ∀ x, lo = some x → ∃ v, vlo = some v ∧ V m x v) (hl0 : lo = none → vlo = none) (hh : ∀ x, hi = some x → ∃ v, vhi = some v ∧ V m x v) (hm : V m mx vmx) :
    ∃ l h c', (Instr.sliceBounds true n c vlo vhi (some vmx)).run P w = .ok (l, h, c') w := by
  unfold boundsM at hb
  split at hb
  · cases hb
    obtain ⟨v, rfl, hv⟩ := hl _ rfl
    cases hv
    obtain ⟨v, rfl, hv⟩ := hh _ rfl
    cases hv
    cases hm
    rename_i kl l kh h km q
    have h1 : q ≤ (c : Int) := by omega
    have h2 : 0 ≤ q := by omega
    have h3 : h ≤ (q.toNat : Int) := by omega
    have h4 : l ≤ (h.toNat : Int) := by omega
    have e1 := run_sliceBound (P := P) w km q c .slice3C h2 h1
    exact ⟨l.toNat, h.toNat, q.toNat, by simp [Instr.sliceBounds, run_sliceBound w km q c _ h2 h1, run_sliceBound w kh h q.toNat _ (by omega) h3, run_sliceBound w kl l h.toNat _ hpc.1 h4]⟩
  · cases hb

theorem does_slice (hT : TOk P T) {t : TypeId} {x : SV} {vx : Value} {lo hi mx : Option SV} {vlo vhi vmx : Option Value} (hR : Rel m Imm H w) (hx : V m x vx) (hlo : OptV m lo vlo) (hhi : OptV m hi vhi) (hmx : OptV m mx vmx)
    (h : Holds (evSlice T t x lo hi mx H) s u) : Does P (Instr.sliceAt t vx vlo vhi vmx) m Imm H w key s u := by
  unfold evSlice at h
  split at h
  · rename_i mxv
    obtain ⟨vm, rfl, hvm⟩ := hmx.1 _ rfl
    split at h
    · rename_i e _ _ _ _ hti
      have hu : P.underlying t = some (.slice e) := (hT t _ hti).desc
      split at h
      · rename_i b
        split at h
        · rename_i own k xs hb
          obtain ⟨p1, p2, p3, _⟩ := hR.hold b _ hb
          split at h
          · rename_i c hbd
            cases hq : kindIs T e k with
            | false => rw [hq] at h; exact h.fail.elim
            | true =>
            rw [hq] at h
            obtain ⟨_, inf, _, _, i1, i2⟩ := kindIs_ok hT hq
            obtain ⟨hc, rfl, rfl⟩ := h.vc
            obtain ⟨a, cp, rfl, g1, g2⟩ := hx.whole
            obtain ⟨l, h', c', hr⟩ := run_max (P := P) (w := w) (n := (m b).len) (c := cp) hbd hc (by omega) hlo.1 hlo.2 hhi.1 hvm
            exact .same hR (v := .slice (if c' = l then a else a.map (·.add (l * inf.size))) (h' - l) (c' - l)) (by simp [Instr.sliceAt, Instr.slice, run_underlying hu, hr, run_sizeOf' i1]) (.undef _)
          · exact h.fail.elim
        · exact h.fail.elim
      · rename_i b i n
        split at h
        · rename_i own k xs hb
          obtain ⟨p1, p2, p3, _⟩ := hR.hold b _ hb
          split at h
          · rename_i c hbd
            cases hq : kindIs T e k with
            | false => rw [hq] at h; exact h.fail.elim
            | true =>
            rw [hq] at h
            obtain ⟨_, inf, _, _, i1, i2⟩ := kindIs_ok hT hq
            obtain ⟨hc, rfl, rfl⟩ := h.vc
            obtain ⟨a, cp, rfl, g1, g2, g4⟩ := hx.cut
            obtain ⟨l, h', c', hr⟩ := run_max (P := P) (w := w) (n := n) (c := cp) hbd hc (by omega) hlo.1 hlo.2 hhi.1 hvm
            exact .same hR (v := .slice (if c' = l then a else a.map (·.add (l * inf.size))) (h' - l) (c' - l)) (by simp [Instr.sliceAt, Instr.slice, run_underlying hu, hr, run_sizeOf' i1]) (.undef _)
          · exact h.fail.elim
        · exact h.fail.elim
      · exact h.fail.elim
    · exact h.fail.elim
  · obtain rfl := hmx.2 rfl
    split at h
    · rename_i hti
      have hu : P.underlying t = some .string := (hT t _ hti).desc
      split at h
      · rename_i str
        split at h
        · rename_i c l h' hb
          obtain ⟨hc, rfl, rfl⟩ := h.vc
          cases hx
          obtain ⟨hr, _, _⟩ := run_bounds (P := P) (w := w) (m := m) (isS := false) hb hc (Nat.le_refl _) hlo.1 hlo.2 hhi.1 hhi.2
          exact .same hR (by simp [Instr.sliceAt, Instr.slice, run_underlying hu, hr]) (.val _)
        · exact h.fail.elim
      · exact h.fail.elim
    · rename_i e _ _ _ _ hti
      have hu : P.underlying t = some (.slice e) := (hT t _ hti).desc
      split at h
      · rename_i b
        split at h
        · rename_i own k xs hb
          obtain ⟨p1, p2, p3, _⟩ := hR.hold b _ hb
          cases hq : kindIs T e k with
          | false => rw [hq] at h; exact h.fail.elim
          | true =>
            rw [hq] at h
            simp only [cond_true] at h
            obtain ⟨_, inf, _, _, i1, i2⟩ := kindIs_ok hT hq
            split at h
            · rename_i c l h' hbd
              obtain ⟨hc, rfl, rfl⟩ := h.vc
              obtain ⟨a, cp, rfl, g1, g2⟩ := hx.whole
              obtain ⟨hr, r1, r2⟩ := run_bounds (P := P) (w := w) (m := m) (c := cp) (isS := true) hbd hc (by omega) hlo.1 hlo.2 hhi.1 hhi.2
              rw [← p2] at hr
              refine .same hR (run_cut hu i1 hr) ?_
              have := cut_value (m := m) (b := b) (i := 0) (l := l) (h := h') (c := cp) (a := a) (sz' := inf.size) (by rw [p1, i2]) r1 (by omega) (fun hc => by obtain ⟨q1, q2⟩ := g2 (.inr hc); exact ⟨by simpa using q1, by omega⟩) (fun _ => by omega) (by omega)
              simpa using this
            · exact h.fail.elim
        · exact h.fail.elim
      · rename_i b i n
        split at h
        · rename_i own k xs hb
          obtain ⟨p1, p2, p3, _⟩ := hR.hold b _ hb
          cases hq : kindIs T e k with
          | false => rw [hq] at h; exact h.fail.elim
          | true =>
            rw [hq] at h
            simp only [cond_true] at h
            obtain ⟨_, inf, _, _, i1, i2⟩ := kindIs_ok hT hq
            split at h
            · rename_i c l h' hbd
              obtain ⟨hc, rfl, rfl⟩ := h.vc
              obtain ⟨a, cp, rfl, g1, g2, g4⟩ := hx.cut
              have hnl : n ≤ xs.length - i := by
                by_cases h0 : n = 0
                · omega
                · obtain ⟨_, _, q3⟩ := g2 (.inl h0); omega
              obtain ⟨hr, r1, r2⟩ := run_boundsX (P := P) (w := w) (m := m) (c := cp) hbd hc (by omega) (by omega) hnl hlo.1 hlo.2 hhi.1 hhi.2
              refine .same hR (run_cut hu i1 hr) ?_
              exact cut_value (m := m) (b := b) (i := i) (l := l) (h := h') (c := cp) (a := a) (sz' := inf.size) (by rw [p1, i2]) r1 (by omega) (fun hc => by obtain ⟨q1, q2, q3⟩ := g2 (.inr hc); exact ⟨q1, q2⟩) (fun hc => by obtain ⟨q1, q2, q3⟩ := g2 (.inr hc); omega) g4
            · exact h.fail.elim
        · exact h.fail.elim
      · split at h
        · rename_i ti hte
          obtain ⟨inf, z, hi2, _⟩ := (hT e ti hte).info
          split at h
          · rename_i c l h' hbd
            obtain ⟨hc, rfl, rfl⟩ := h.vc
            cases hx
            obtain ⟨hr, r1, r2⟩ := run_bounds (P := P) (w := w) (m := m) (c := 0) (isS := true) hbd hc (Nat.le_refl _) hlo.1 hlo.2 hhi.1 hhi.2
            obtain rfl : h' = 0 := by omega
            obtain rfl : l = 0 := by omega
            exact .same hR (by rw [run_cut hu hi2 hr]; simp) (.val _)
          · exact h.fail.elim
        · exact h.fail.elim
      · exact h.fail.elim
    · exact h.fail.elim

theorem does_len (hT : TOk P T) {t ty : TypeId} {x : SV} {vx : Value} (hR : Rel m Imm H w) (hx : V m x vx) (h : Holds (evLen T t x H) s u) : Does P (Builtin.len_ #[t] ty #[vx]) m Imm H w key s u := by
  unfold evLen at h
  split at h
  · rename_i hti
    have hu : P.underlying t = some .string := (hT t _ hti).desc
    split at h
    · obtain ⟨rfl, rfl⟩ := h.ok
      cases hx
      exact .same hR (by simp [Builtin.len_, run_underlying hu, goInt]) (.val _)
    · exact h.fail.elim
  · rename_i n e _ _ _ _ hti
    have hu : P.underlying t = some (.array n e) := (hT t _ hti).desc
    obtain ⟨rfl, rfl⟩ := h.ok
    exact .same hR (by simp [Builtin.len_, run_underlying hu, goInt]) (.val _)
  · rename_i e _ _ _ _ hti
    have hu : P.underlying t = some (.slice e) := (hT t _ hti).desc
    split at h
    · obtain ⟨rfl, rfl⟩ := h.ok
      cases hx
      exact .same hR (by simp [Builtin.len_, run_underlying hu, goInt]) (.val _)
    · split at h
      · rename_i b _ own k xs hb
        obtain ⟨rfl, rfl⟩ := h.ok
        obtain ⟨p1, p2, p3, _⟩ := hR.hold b _ hb
        obtain ⟨a, cp, rfl, _⟩ := hx.whole
        exact .same hR (by simp [Builtin.len_, run_underlying hu, goInt, p2]) (.val _)
      · exact h.fail.elim
    · obtain ⟨rfl, rfl⟩ := h.ok
      obtain ⟨a, cp, rfl, _⟩ := hx.cut
      exact .same hR (by simp [Builtin.len_, run_underlying hu, goInt]) (.val _)
    · obtain ⟨rfl, rfl⟩ := h.ok
      cases hx
      exact .same hR (by simp [Builtin.len_, run_underlying hu, goInt]) (.val _)
    · exact h.fail.elim
  · exact h.fail.elim

theorem does_cap (hT : TOk P T) {t ty : TypeId} {x : SV} {vx : Value} (hR : Rel m Imm H w) (hx : V m x vx) (h : Holds (evCap T t x) s u) : Does P (Builtin.cap_ #[t] ty #[vx]) m Imm H w key s u := by
  unfold evCap at h
  split at h
  · rename_i e _ _ _ _ hti
    have hu : P.underlying t = some (.slice e) := (hT t _ hti).desc
    obtain ⟨rfl, rfl⟩ := h.ok
    cases hx
    exact .same hR (by simp [Builtin.cap_, run_underlying hu, goInt]) (.val _)
  · exact h.fail.elim

theorem does_minMax {mx : Bool} {l : List SV} {vs : Array Value} {at_ : Array TypeId} {ty : TypeId} (hR : Rel m Imm H w) (hl : Vs m l vs.toList) (h : Holds (evMinMax mx l) s u) :
    Does P (if mx then Builtin.max_ at_ ty vs else Builtin.min_ at_ ty vs) m Imm H w key s u := by
  unfold evMinMax at h
  split at h
  · rename_i k a k' b
    cases hv : vs with
    | mk lv =>
      rw [hv] at hl
      cases hl with
      | cons _ v1 _ r h1 h2 =>
        cases h2 with
        | cons _ v2 _ r h2 h3 =>
          cases h3
          cases h1; cases h2
          split at h
          · rename_i hk; subst hk
            obtain ⟨rfl, rfl⟩ := h.ok
            cases mx
            · exact .same hR (by simp [Builtin.min_, Builtin.min2]) (.val _)
            · exact .same hR (by simp [Builtin.max_, Builtin.max2]) (.val _)
          · exact h.fail.elim
  · exact h.fail.elim
end Go.Proofs.Ythbmllekbbfobaa.Sx

/-! Rows that are made, and that grow. -/
namespace Go.Proofs.Ythbmllekbbfobaa.Sx
open Go
set_option linter.unusedVariables false
set_option linter.unusedSimpArgs false

variable {P : Program} {T : TT} {m : Nat → Place} {Imm : Nat → Prop} {H : VH} {w : World} {key : Nat} {s : SV} {u : List (Nat × Option VB)}

/-- The zeros of n elements, one behind the other. -/
def zerosOf (z : List Value) (n : Nat) : List Value := (List.replicate n z).flatten
theorem zerosOf_get {z : List Value} : ∀ {n i : Nat}, i < n * z.length → (zerosOf z n)[i]? = z[i % z.length]? := by
  intro n
  induction n with
  | zero => intro i h; omega
  | succ n ih =>
    intro i h
    have e : zerosOf z (n + 1) = z ++ zerosOf z n := by simp [zerosOf, List.replicate_succ]
    rw [e]
    by_cases hi : i < z.length
    · rw [List.getElem?_append_left hi, Nat.mod_eq_of_lt hi]
    · rw [List.getElem?_append_right (by omega), ih (by rw [Nat.add_mul] at h; omega)]
      rw [← Nat.mod_eq_sub_mod (by omega)]
theorem zerosOf_length (z : List Value) (n : Nat) : (zerosOf z n).length = n * z.length := by
  simp [zerosOf]
theorem zeros_array {z : Array Value} (hz : 0 < z.size) (n : Nat) : ((Array.range (n * z.size)).map (fun i => z[i % z.size]!)).toList = zerosOf z.toList n := by
  apply List.ext_getElem?
  intro i
  by_cases hi : i < n * z.size
  · rw [zerosOf_get (by simpa using hi)]
    have hm : i % z.size < z.size := Nat.mod_lt _ hz
    simp [hi, hm]
  · rw [List.getElem?_eq_none (by simp; omega), List.getElem?_eq_none (by rw [zerosOf_length]; simp; omega)]

theorem kindS_ok (hT : TOk P T) {t : TypeId} {k : RK} (h : kindS T t = some k) : ∃ e inf z, P.underlying t = some (.slice e) ∧ P.info? e = some inf ∧ inf.zero = some z ∧ inf.size = sz k ∧ inf.bytes = bytesS T t ∧ z.cells.size = sz k ∧ ZeroOk k z.cells.toList := by
  unfold kindS at h
  split at h
  · rename_i e _ _ _ _ hti
    unfold kindE at h
    split at h
    · rename_i ti hte
      obtain ⟨inf, z, h1, h2, h3, h4, h5, _⟩ := (hT e ti hte).info
      obtain ⟨k1, k2⟩ := (hT e ti hte).kind k h
      refine ⟨e, inf, z, (hT t _ hti).desc, h1, h4, by rw [h2, k1], ?_, ?_, by rw [h5]; exact k2⟩
      · simp [bytesS, hti, hte, h3]
      · rw [← Array.length_toList, h5]; exact k2.1
    · cases h
  · cases h

/-- A row of zeros. -/
theorem zero_cells {k : RK} {z : List Value} (hz : ZeroOk k z) {n c : Nat} (hnc : n ≤ c) : ∀ (i j : Nat) (e : CS), i < n → (enc k ((List.replicate n (zK k)).getD i (zK k)))[j]? = some e → ∃ v, (zerosOf z c)[i * sz k + j]? = some v ∧ CV Imm w e v := by
  intro i j e hi he
  have e1 : (List.replicate n (zK k)).getD i (zK k) = zK k := by simp [List.getD, hi]
  rw [e1] at he
  have hj : j < sz k := by have := (List.getElem?_eq_some_iff.1 he).1; rwa [enc_length] at this
  obtain ⟨v, h1, h2⟩ := hz.2 j e he
  have hlt : i * sz k + j < c * sz k := by
    have : (i + 1) * sz k ≤ c * sz k := Nat.mul_le_mul_right _ (by omega)
    rw [Nat.add_mul] at this; omega
  refine ⟨v, ?_, h2 _ _⟩
  rw [zerosOf_get (by rw [hz.1]; exact hlt), hz.1, Nat.mul_comm i, Nat.mul_add_mod, Nat.mod_eq_of_lt hj]
  exact h1

theorem does_makeSlice (hT : TOk P T) {t : TypeId} {l c : SV} {vl vc : Value} (hR : Rel m Imm H w) (hc : Clean key H) (hl : V m l vl) (hcp : V m c vc) (h : Holds (evMakeSlice T t l c key) s u) : Does P (Instr.makeSlice t vl vc) m Imm H w key s u := by
  unfold evMakeSlice at h
  split at h
  · rename_i k n mm hk
    cases hl; cases hcp
    cases hq : Nat.beq (bytesS T t) 0 with
    | true => rw [hq] at h; exact h.fail.elim
    | false =>
      rw [hq] at h
      obtain ⟨⟨h0, h1, h2⟩, rfl, rfl⟩ := h.vc
      obtain ⟨e, inf, z, hu, hi, hz, hs, hb, hzs, hzo⟩ := kindS_ok hT hk
      have hbp : 0 < bytesS T t := by rw [beqN] at hq; simp at hq; omega
      have hmm : mm ≤ 140737488355328 := by
        have : mm * 1 ≤ mm * (bytesS T t : Int) := Int.mul_le_mul_of_nonneg_left (by omega) (by omega)
        omega
      have w1 : IntKind.i64.wrap n = n := by simp only [IntKind.wrap, IntKind.bits, IntKind.signed]; simp; omega
      have w2 : IntKind.i64.wrap mm = mm := by simp only [IntKind.wrap, IntKind.bits, IntKind.signed]; simp; omega
      have hb2 : (inf.bytes : Int) * mm = mm * (bytesS T t : Int) := by rw [hb, Int.mul_comm]
      have t1 : ¬ (mm < 0) := by omega
      have t2 : ¬ ((281474976710656 : Int) < inf.bytes * mm) := by rw [hb2]; omega
      have t3 : ¬ (n < 0) := by omega
      have t4 : ¬ (mm < n) := by omega
      have hrun : (Instr.makeSlice t (.int .i64 n) (.int .i64 mm)).run P w = .ok (.slice (some ⟨w.heap.size, 0, none⟩) n.toNat mm.toNat) (w.alloc (.cells ((Array.range (mm.toNat * inf.size)).map (fun i => (if mm.toNat * inf.size = 0 then #[] else z.cells)[i % (if mm.toNat * inf.size = 0 then #[] else z.cells).size]!)) e)) := by
        simp only [Instr.makeSlice, Sem.run_bind, run_underlying hu, Result.andThen_ok, asInt, asIntOf, Sem.run_pure, run_typeInfo hi, w1, w2]
        by_cases hm0 : mm.toNat * inf.size = 0
        · simp only [if_pos hm0]
          simp [t1, t2, t3, t4, run_sizeOf' hi, newRow]
          intro hh; exact absurd hm0 hh
        · simp only [if_neg hm0]
          simp [t1, t2, t3, t4, run_sizeOf' hi, newRow, run_zeroValue' hi hz]
          intro hh; exact absurd hh hm0
      refine ⟨_, _, setM m key ⟨w.heap.size, 0, sz k, mm.toNat, n.toNat⟩, Imm, hrun, ?_, ?_⟩
      · exact slF_new m key ⟨w.heap.size, 0, sz k, mm.toNat, n.toNat⟩ mm.toNat (by simp; omega) (Nat.le_refl _)
      · have e1 : ((Array.range (mm.toNat * inf.size)).map (fun i => (if mm.toNat * inf.size = 0 then #[] else z.cells)[i % (if mm.toNat * inf.size = 0 then #[] else z.cells).size]!)).toList = zerosOf z.cells.toList mm.toNat := by
          by_cases hm0 : mm.toNat * inf.size = 0
          · have hmz : mm.toNat = 0 := by
              rcases Nat.mul_eq_zero.1 hm0 with h | h
              · exact h
              · have := sz_pos k; omega
            simp [hmz, zerosOf]
          · simp only [if_neg hm0]
            rw [hs, ← hzs]
            exact zeros_array (by rw [hzs]; exact sz_pos k) _
        have hst := Step.newRow (key := key) hR (hc key (inRange_self key)) (inRange_self key) ((Array.range (mm.toNat * inf.size)).map (fun i => (if mm.toNat * inf.size = 0 then #[] else z.cells)[i % (if mm.toNat * inf.size = 0 then #[] else z.cells).size]!)) e k (List.replicate n.toNat (zK k)) mm.toNat (by simp; omega)
          (by rw [← Array.length_toList, e1, zerosOf_length, Array.length_toList, hzs]) (by
            intro i j e' hi' he'
            obtain ⟨v, g1, g2⟩ := zero_cells (Imm := Imm) (w := w) hzo (n := n.toNat) (c := mm.toNat) (by omega) i j e' (by simpa using hi') he'
            refine ⟨v, ?_, g2⟩
            rw [← Array.getElem?_toList, e1]; exact g1)
        simpa using hst
  · exact h.fail.elim

theorem idsL_iff : ∀ {l : List SV} {b : Nat}, b ∈ idsL l ↔ ∃ s ∈ l, b ∈ s.ids
  | [], b => by simp [idsL]
  | s :: l, b => by simp [idsL, idsL_iff (l := l)]
theorem cells_ids' {x : SV} {b : Nat} (h : b ∈ idsL x.cells) : b ∈ x.ids := by
  cases x <;> simp [SV.cells, idsL, SV.ids] at h ⊢ <;> exact h
theorem partsIn_ids {place : Nat → Option (Nat × Nat)} : ∀ {ps : List (Nat × SV)} {cs cs' : List SV} {b : Nat}, partsIn T place ps cs = some cs' → b ∈ idsL cs' → b ∈ idsL cs ∨ ∃ p ∈ ps, b ∈ p.2.ids
  | [], cs, cs', b, h, hb => by
    simp only [partsIn, Option.some.injEq] at h
    subst h
    exact .inl hb
  | (i, x) :: ps, cs, cs', b, h, hb => by
    unfold partsIn at h
    split at h
    · rename_i o sz' _
      cases hc : (Nat.beq (lenN x.cells) sz' && Nat.ble (o + sz') (lenN cs) && x.cells.all SV.one) with
      | false => rw [hc] at h; cases h
      | true =>
        rw [hc] at h
        simp only [cond_true, fL_eq] at h
        rcases partsIn_ids (ps := ps) h hb with hb | ⟨p, hp, hb⟩
        · obtain ⟨s, hs, hb⟩ := idsL_iff.1 hb
          simp only [splice, List.mem_append] at hs
          rcases hs with (hs | hs) | hs
          · exact .inl (idsL_iff.2 ⟨s, List.mem_of_mem_take hs, hb⟩)
          · exact .inr ⟨(i, x), List.mem_cons_self, cells_ids' (idsL_iff.2 ⟨s, hs, hb⟩)⟩
          · exact .inl (idsL_iff.2 ⟨s, List.mem_of_mem_drop hs, hb⟩)
        · exact .inr ⟨p, List.mem_cons_of_mem _ hp, hb⟩
    · cases h
theorem does_buildSlice (hT : TOk P T) {t : TypeId} {n : Nat} {ps : List (Nat × SV)} {pv : Array (Nat × Value)} (hR : Rel m Imm H w) (hc : Clean key H) (ho : ∀ p ∈ ps, ∀ b ∈ p.2.ids, inRange key b = false) (hl : ps.length = pv.size)
    (hp : ∀ (i : Nat) (p : Nat × SV) (q : Nat × Value), ps[i]? = some p → pv[i]? = some q → p.1 = q.1 ∧ V m p.2 q.2)
    (h : Holds (evBuildSlice T t n ps H key) s u) : Does P (Instr.buildSlice t n pv) m Imm H w key s u := by
  unfold evBuildSlice at h
  split at h
  · rename_i e _ _ _ _ hti
    have hu : P.underlying t = some (.slice e) := (hT t _ hti).desc
    split at h
    · rename_i ti hte
      split at h
      · rename_i k hk
        cases hq : Nat.ble (n * ti.size) 16777216 with
        | false => rw [hq] at h; exact h.fail.elim
        | true =>
          rw [hq] at h
          rw [Nat.ble_eq] at hq
          simp only [cond_true] at h
          split at h
          · rename_i cs hcs
            split at h
            · rename_i cs' u' hcs'
              split at h
              · rename_i xs hxs
                cases hn : Nat.beq (lenN xs) n with
                | false => rw [hn] at h; exact h.fail.elim
                | true =>
                  rw [hn] at h
                  obtain ⟨rfl, rfl⟩ := h.ok
                  rw [beqN, decide_eq_true_eq, lenN_eq] at hn
                  obtain ⟨inf, z, h1, h2, h3, h4, h5, _⟩ := (hT e ti hte).info
                  obtain ⟨k1, k2⟩ := (hT e ti hte).kind k hk
                  have hzs : z.cells.size = ti.size := by rw [← Array.length_toList, h5, k2.1, k1]
                  have hzp : 0 < ti.size := by rw [k1]; exact sz_pos k
                  have e1 : ((Array.range (n * inf.size)).map (fun i => (if n * inf.size = 0 then #[] else z.cells)[i % (if n * inf.size = 0 then #[] else z.cells).size]!)).toList = zerosOf z.cells.toList n := by
                    by_cases hm0 : n * inf.size = 0
                    · have hmz : n = 0 := by
                        rcases Nat.mul_eq_zero.1 hm0 with h | h
                        · exact h
                        · omega
                      simp [hmz, zerosOf]
                    · simp only [if_neg hm0]
                      rw [h2, ← hzs]
                      exact zeros_array (by rw [hzs]; exact hzp) _
                  have hvs : Vs m ((List.replicate n (ti.zero.map .val)).flatten) ((Array.range (n * inf.size)).map (fun i => (if n * inf.size = 0 then #[] else z.cells)[i % (if n * inf.size = 0 then #[] else z.cells).size]!)).toList := by
                    rw [e1, h5]
                    have : (List.replicate n (ti.zero.map SV.val)).flatten = (zerosOf ti.zero n).map SV.val := by simp [zerosOf, List.map_flatten]
                    rw [this]
                    exact vals m _
                  obtain ⟨arr', f1, f2⟩ := fill_ok (place := fun i => some (i * ti.size, ti.size)) (pv := pv.toList) hcs hvs (by simpa using hl) (fun i p q g1 g2 => hp i p q g1 (by simpa using g2))
                  have hrun : (Instr.buildSlice t n pv).run P w = .ok (.slice (some ⟨w.heap.size, 0, none⟩) n n) (w.alloc (.cells arr' e)) := by
                    have hb : ¬ (16777216 < n * inf.size) := by rw [h2]; omega
                    rw [← h2] at f1
                    by_cases hm0 : n * inf.size = 0
                    · simp only [if_pos hm0] at f1
                      have f1' : Instr.fill (fun i => some (i * inf.size, inf.size)) (Array.map (fun _ => default) (Array.range 0)) pv.toList = some arr' := by simpa [hm0] using f1
                      simp [Instr.buildSlice, run_underlying hu, run_sizeOf' h1, hm0, newRow]
                      rw [f1']
                      simp
                    · simp only [if_neg hm0] at f1
                      simp [Instr.buildSlice, run_underlying hu, run_sizeOf' h1, hb, hm0, newRow, run_zeroValue' h1 h4]
                      rw [f1]
                      simp
                  obtain ⟨g1, g2, g3⟩ := toCS_ok hR hcs' f2
                  have hfr := Step.freeze hR g2 key
                  refine ⟨_, _, setM m key ⟨w.heap.size, 0, sz k, xs.length, xs.length⟩, ImmF m Imm u', hrun, ?_, ?_⟩
                  · have := slF_new m key ⟨w.heap.size, 0, sz k, xs.length, xs.length⟩ n (by simp; omega) (by simp; omega)
                    simpa [hn] using this
                  · have := hfr.trans (row_of hfr.rel (inRange_self key) (not_used_upd g2 (hc key (inRange_self key))) arr' e hxs (by rw [g1, Array.length_toList]) g3)
                    rwa [← upd_append] at this
              · exact h.fail.elim
            · exact h.fail.elim
          · exact h.fail.elim
      · cases hq : (Nat.blt 0 ti.size && Nat.ble (n * ti.size) 16777216 && Nat.beq (lenN ti.zero) ti.size) with
        | false => rw [hq] at h; exact h.fail.elim
        | true =>
          rw [hq] at h
          simp only [Bool.and_eq_true, beqN, decide_eq_true_eq, Nat.ble_eq, Nat.blt_eq, lenN_eq] at hq
          obtain ⟨⟨q1, q2⟩, q3⟩ := hq
          simp only [cond_true] at h
          split at h
          · rename_i cs hcs
            cases hn : Nat.beq (lenN cs) (n * ti.size) with
            | false => rw [hn] at h; exact h.fail.elim
            | true =>
              rw [hn] at h
              obtain ⟨rfl, rfl⟩ := h.ok
              obtain ⟨inf, z, h1, h2, h3, h4, h5, _⟩ := (hT e ti hte).info
              have hzs : z.cells.size = ti.size := by rw [← Array.length_toList, h5, q3]
              have e1 : ((Array.range (n * inf.size)).map (fun i => (if n * inf.size = 0 then #[] else z.cells)[i % (if n * inf.size = 0 then #[] else z.cells).size]!)).toList = zerosOf z.cells.toList n := by
                by_cases hm0 : n * inf.size = 0
                · have hmz : n = 0 := by
                    rcases Nat.mul_eq_zero.1 hm0 with h | h
                    · exact h
                    · omega
                  simp [hmz, zerosOf]
                · simp only [if_neg hm0]
                  rw [h2, ← hzs]
                  exact zeros_array (by rw [hzs]; omega) _
              have hvs : Vs m ((List.replicate n (ti.zero.map .val)).flatten) ((Array.range (n * inf.size)).map (fun i => (if n * inf.size = 0 then #[] else z.cells)[i % (if n * inf.size = 0 then #[] else z.cells).size]!)).toList := by
                rw [e1, h5]
                have : (List.replicate n (ti.zero.map SV.val)).flatten = (zerosOf ti.zero n).map SV.val := by simp [zerosOf, List.map_flatten]
                rw [this]
                exact vals m _
              obtain ⟨arr', f1, f2⟩ := fill_ok (place := fun i => some (i * ti.size, ti.size)) (pv := pv.toList) hcs hvs (by simpa using hl) (fun i p q g1 g2 => hp i p q g1 (by simpa using g2))
              have hrun : (Instr.buildSlice t n pv).run P w = .ok (.slice (some ⟨w.heap.size, 0, none⟩) n n) (w.alloc (.cells arr' e)) := by
                have hb : ¬ (16777216 < n * inf.size) := by rw [h2]; omega
                rw [← h2] at f1
                by_cases hm0 : n * inf.size = 0
                · simp only [if_pos hm0] at f1
                  have f1' : Instr.fill (fun i => some (i * inf.size, inf.size)) (Array.map (fun _ => default) (Array.range 0)) pv.toList = some arr' := by simpa [hm0] using f1
                  simp [Instr.buildSlice, run_underlying hu, run_sizeOf' h1, hm0, newRow]
                  rw [f1']
                  simp
                · simp only [if_neg hm0] at f1
                  simp [Instr.buildSlice, run_underlying hu, run_sizeOf' h1, hb, hm0, newRow, run_zeroValue' h1 h4]
                  rw [f1]
                  simp
              refine ⟨_, _, setM m key ⟨w.heap.size, 0, 0, 0, 0⟩, Imm, hrun, ?_, Step.newCells hR (hc key (inRange_self key)) (inRange_self key) arr' e cs f2 (fun x hx he => ?_) 0 0 0⟩
              · have := V.slC (m := setM m key ⟨w.heap.size, 0, 0, 0, 0⟩) key n n (Nat.le_refl _)
                rw [setM_at] at this
                exact this
              · rcases partsIn_ids hcs hx with hb | ⟨p, hp', hb⟩
                · rw [show (List.replicate n (ti.zero.map SV.val)).flatten = (zerosOf ti.zero n).map SV.val by simp [zerosOf, List.map_flatten], idsL_vals] at hb
                  simp at hb
                · have := ho p hp' x hb
                  rw [he, inRange_self] at this
                  cases this
          · exact h.fail.elim
    · exact h.fail.elim
  · exact h.fail.elim
end Go.Proofs.Ythbmllekbbfobaa.Sx

/-! append. -/
namespace Go.Proofs.Ythbmllekbbfobaa.Sx
open Go
set_option linter.unusedVariables false
set_option linter.unusedSimpArgs false

variable {P : Program} {T : TT} {m : Nat → Place} {Imm : Nat → Prop} {H : VH} {w : World} {key : Nat} {s : SV} {u : List (Nat × Option VB)}

/-- The cells of two rows, one behind the other. -/
theorem cells_append {k : RK} {xs ys : List (El k)} {arr : List Value} {news : List Value}
    (h1 : ∀ i j e, i < xs.length → (enc k (xs.getD i (zK k)))[j]? = some e → ∃ v, arr[i * sz k + j]? = some v ∧ CV Imm w e v)
    (h2 : ∀ (j : Nat) (e : CS), (ys.flatMap (enc k))[j]? = some e → ∃ v, news[j]? = some v ∧ CV Imm w e v) {full : List Value}
    (ha : ∀ i, i < xs.length * sz k → full[i]? = arr[i]?) (hb : ∀ i, i < news.length → full[xs.length * sz k + i]? = news[i]?) :
    ∀ i j e, i < (xs ++ ys).length → (enc k ((xs ++ ys).getD i (zK k)))[j]? = some e → ∃ v, full[i * sz k + j]? = some v ∧ CV Imm w e v := by
  intro i j e hi he
  have hj : j < sz k := by have := (List.getElem?_eq_some_iff.1 he).1; rwa [enc_length] at this
  by_cases hx : i < xs.length
  · have e1 : (xs ++ ys).getD i (zK k) = xs.getD i (zK k) := by simp [List.getD, List.getElem?_append_left hx]
    rw [e1] at he
    obtain ⟨v, h3, h4⟩ := h1 i j e hx he
    refine ⟨v, ?_, h4⟩
    rw [ha _ (by have : (i + 1) * sz k ≤ xs.length * sz k := Nat.mul_le_mul_right _ hx
                 rw [Nat.add_mul] at this; omega)]
    exact h3
  · rw [List.length_append] at hi
    have e1 : (xs ++ ys).getD i (zK k) = ys.getD (i - xs.length) (zK k) := by simp [List.getD, List.getElem?_append_right (Nat.le_of_not_lt hx)]
    rw [e1] at he
    have hiy : i - xs.length < ys.length := by omega
    have key : ∀ (l : List (El k)) (q : Nat), q < l.length → (l.flatMap (enc k))[q * sz k + j]? = (enc k (l.getD q (zK k)))[j]? := by
      intro l
      induction l with
      | nil => intro q hq; simp at hq
      | cons x l ih =>
        intro q hq
        rw [List.flatMap_cons]
        cases q with
        | zero => rw [List.getElem?_append_left (by rw [enc_length]; omega)]; simp
        | succ q =>
          rw [List.getElem?_append_right (by rw [enc_length, Nat.add_mul]; omega), enc_length]
          have : (q + 1) * sz k + j - sz k = q * sz k + j := by rw [Nat.add_mul]; omega
          rw [this, ih q (by simpa using hq)]
          simp
    obtain ⟨v, h3, h4⟩ := h2 ((i - xs.length) * sz k + j) e (by rw [key ys _ hiy]; exact he)
    refine ⟨v, ?_, h4⟩
    have hlt := (List.getElem?_eq_some_iff.1 h3).1
    rw [← h3, ← hb _ hlt]
    congr 1
    have : i * sz k = xs.length * sz k + (i - xs.length) * sz k := by rw [← Nat.add_mul]; congr 1; omega
    omega

theorem run_append_none {t ty e : TypeId} {inf : TypeInfo} (hu : P.underlying t = some (.slice e)) (hi : P.info? e = some inf) {a a' : Option Addr} {n c c' : Nat} (hnc : n ≤ c) :
    (Builtin.append_ #[t, t] ty #[.slice a n c, .slice a' 0 c']).run P w = .ok (.slice a n c) w := by
  cases a <;> cases a' <;> simp [Builtin.append_, run_underlying hu, sizeOf, typeInfo, hi, Builtin.lenOf, hnc, Builtin.firstCells, loadCells, loadCellsFrom, storeCells]

/-- A row that has moved into a new block. -/
theorem grown_row (hR : Rel m Imm H w) (hc : Clean key H) {w0 : World} (hw0 : w0.heap = w.heap) (hcalm : Calm w w0) {e : TypeId} {k : RK} {xs ys : List (El k)} {z : Array Value} {olds news : List Value} {C : Nat} (hC : xs.length + ys.length ≤ C)
    (hz : z.size = sz k) (ho : olds.length = xs.length * sz k) (h1 : ∀ i j e, i < xs.length → (enc k (xs.getD i (zK k)))[j]? = some e → ∃ v, olds[i * sz k + j]? = some v ∧ CV Imm w e v)
    (hn : news.length = ys.length * sz k) (h2 : ∀ (j : Nat) (e : CS), (ys.flatMap (enc k))[j]? = some e → ∃ v, news[j]? = some v ∧ CV Imm w e v) :
    Step m Imm H w (setM m key ⟨w.heap.size, 0, sz k, C, (xs ++ ys).length⟩) Imm (upd [(key, some (.row true k (xs ++ ys)))] H)
      (w0.alloc (.cells (olds.toArray ++ news.toArray ++ Builtin.zeroCells z (C - (xs.length + ys.length))) e)) key := by
  have hc0 : Clean key H := hc
  have hR0 : Rel m Imm H w0 := ⟨fun b vb h => (hR.hold b vb h).stays (fun _ h => h) (fun _ _ => by rw [hw0]) (fun _ => by rw [hw0]) (fun _ _ _ _ => rfl), hR.dist, hR.apart, fun r hr => by rw [hw0]; exact hR.imm r hr⟩
  have st0 : Step m Imm H w m Imm H w0 key := ⟨hR0, fun _ _ => rfl, fun _ h => h, fun _ h => .inl h, fun b vb e o => .inr ⟨b, vb, e, o, rfl⟩, fun _ _ _ => by rw [hw0], hcalm⟩
  have hstay : ∀ e v, CV Imm w e v → CV Imm w0 e v := fun e v h => h.stays (fun _ h => h) (fun _ _ => by rw [hw0])
  have hsz : (olds.toArray ++ news.toArray ++ Builtin.zeroCells z (C - (xs.length + ys.length))).size = C * sz k := by
    simp [size_zeroCells, hz, ho, hn]
    rw [← Nat.add_mul, ← Nat.add_mul]
    congr 1
    omega
  have := Step.newRow (key := key) hR0 (hc key (inRange_self key)) (inRange_self key) (olds.toArray ++ news.toArray ++ Builtin.zeroCells z (C - (xs.length + ys.length))) e k (xs ++ ys) C (by simp; omega) hsz (by
    have := cells_append (k := k) (xs := xs) (ys := ys) (arr := olds) (news := news) (Imm := Imm) (w := w) h1 h2 (full := (olds.toArray ++ news.toArray ++ Builtin.zeroCells z (C - (xs.length + ys.length))).toList)
      (fun i hi => by simp only [Array.toList_append, List.append_assoc]; rw [List.getElem?_append_left (by omega)]) (fun i hi => by
        simp only [Array.toList_append, List.append_assoc]
        rw [List.getElem?_append_right (by omega), List.getElem?_append_left (by omega)]
        congr 1
        omega)
    intro i j e hi he
    obtain ⟨v, g1, g2⟩ := this i j e hi he
    exact ⟨v, by rw [← Array.getElem?_toList]; exact g1, hstay _ _ g2⟩)
  rw [show w0.heap.size = w.heap.size by rw [hw0]] at this
  exact st0.trans this
def oneB : CS → Bool
  | .v v => v.oneCell'
  | .s _ _ => true
theorem enc_one (k : RK) (x : El k) : (enc k x).all oneB = true := by cases k <;> rfl
theorem one_of_enc {k : RK} {ys : List (El k)} {c : CS} {v : Value} (h : CV Imm w c v) (hm : c ∈ ys.flatMap (enc k)) : v.oneCell' = true := by
  obtain ⟨x, _, hx⟩ := List.mem_flatMap.1 hm
  have := (List.all_eq_true.1 (enc_one k x)) c hx
  cases h with
  | v _ => exact this
  | s => rfl
  | s0 => rfl
theorem drew_calm (w : World) : Calm w w.drew := ⟨rfl, rfl, rfl, Nat.le_refl _⟩

theorem flat_get {k : RK} {j : Nat} (hj : j < sz k) : ∀ (l : List (El k)) (q : Nat), q < l.length → (l.flatMap (enc k))[q * sz k + j]? = (enc k (l.getD q (zK k)))[j]? := by
  intro l
  induction l with
  | nil => intro q hq; simp at hq
  | cons x l ih =>
    intro q hq
    rw [List.flatMap_cons]
    cases q with
    | zero => rw [List.getElem?_append_left (by rw [enc_length]; omega)]; simp
    | succ q =>
      rw [List.getElem?_append_right (by rw [enc_length, Nat.add_mul]; omega), enc_length]
      have : (q + 1) * sz k + j - sz k = q * sz k + j := by rw [Nat.add_mul]; omega
      rw [this, ih q (by simpa using hq)]
      simp
/-- Elements written over others of a row. -/
theorem splice_row (hR : Rel m Imm H w) {b p : Nat} {k : RK} {xs ys : List (El k)} {news : List Value} (hH : H b = some (.row true k xs)) (hp : p + ys.length ≤ xs.length) (hy : ys ≠ [])
    (l1 : news.length = ys.length * sz k) (l4 : ∀ (j : Nat) (e : CS), (ys.flatMap (enc k))[j]? = some e → ∃ v, news[j]? = some v ∧ CV Imm w e v) (key : Nat) :
    ∃ arr t, w.heap[(m b).blk]? = some (.cells arr t (0, 0)) ∧ (m b).off = 0 ∧ p * sz k + news.length ≤ arr.size ∧ (∀ v ∈ news, v.oneCell' = true) ∧
      Step m Imm H w m Imm (upd [(b, some (.row true k (splice xs p ys)))] H) (w.setRow (m b).blk (splice arr.toList (p * sz k) news).toArray) key := by
  obtain ⟨p1, p2, p3, p4, p5, _⟩ := hR.hold b _ hH
  have hpos : 0 < ys.length := List.length_pos_iff.2 hy
  have hcap : 0 < (m b).cap := by omega
  obtain ⟨p0, arr, t, hh, hs⟩ := p5 rfl hcap
  have hfit : p * sz k + news.length ≤ arr.size := by
    rw [l1, ← Nat.add_mul, hs]; exact Nat.mul_le_mul_right _ (by omega)
  have hone : ∀ v ∈ news, v.oneCell' = true := by
    intro v hv
    obtain ⟨j, hj, rfl⟩ := List.getElem_of_mem hv
    have hj2 : j < (ys.flatMap (enc k)).length := by rw [flat_length, ← l1]; exact hj
    obtain ⟨v', g5, g6⟩ := l4 j _ (List.getElem?_eq_getElem hj2)
    rw [List.getElem?_eq_getElem hj] at g5
    obtain rfl := Option.some.inj g5
    exact one_of_enc g6 (List.getElem_mem hj2)
  refine ⟨arr, t, hh, p0, hfit, hone, ?_⟩
  refine Step.writeRow hR hH hcap hh (by rw [List.size_toArray, splice_length (by simpa using hfit), Array.length_toList]) (splice_length hp) ?_ key
  intro i j e hi he
  rw [splice_length hp] at hi
  have hj : j < sz k := by have := (List.getElem?_eq_some_iff.1 he).1; rwa [enc_length] at this
  have hg : (splice xs p ys).getD i (zK k) = if p ≤ i ∧ i < p + ys.length then ys.getD (i - p) (zK k) else xs.getD i (zK k) := by
    simp only [List.getD]
    rw [splice_get hp]
    split <;> rfl
  rw [hg] at he
  rw [List.getElem?_toArray, splice_get (by simpa using hfit)]
  have hi1 : i * sz k + sz k = (i + 1) * sz k := by rw [Nat.add_mul, Nat.one_mul]
  by_cases hin : p ≤ i ∧ i < p + ys.length
  · rw [if_pos hin] at he
    have h1 : p * sz k ≤ i * sz k := Nat.mul_le_mul_right _ hin.1
    have h2 : (i + 1) * sz k ≤ (p + ys.length) * sz k := Nat.mul_le_mul_right _ hin.2
    rw [Nat.add_mul p] at h2
    rw [if_pos (by omega)]
    obtain ⟨v, g1, g2⟩ := l4 ((i - p) * sz k + j) e (by rw [flat_get hj ys _ (by omega)]; exact he)
    refine ⟨v, ?_, g2⟩
    rw [← g1]
    congr 1
    rw [Nat.sub_mul]; omega
  · rw [if_neg hin] at he
    obtain ⟨v, g1, g2⟩ := p4 i j e hi he
    rw [p0, Nat.zero_add, cell_row hh] at g1
    refine ⟨v, ?_, g2⟩
    rw [if_neg ?_]
    · exact g1
    · rintro ⟨q1, q2⟩
      apply hin
      constructor
      · rcases Nat.lt_or_ge i p with h | h
        · have : (i + 1) * sz k ≤ p * sz k := Nat.mul_le_mul_right _ h
          omega
        · exact h
      · rcases Nat.lt_or_ge i (p + ys.length) with h | h
        · exact h
        · have : (p + ys.length) * sz k ≤ i * sz k := Nat.mul_le_mul_right _ h
          rw [Nat.add_mul] at this
          omega
theorem splice_nil {α : Type} (xs : List α) (p : Nat) : splice xs p [] = xs := by simp [splice]
theorem upd_same_at {H : VH} {b : Nat} {vb : VB} (h : H b = some vb) : upd [(b, some vb)] H = H := by
  funext x
  rw [upd_cons, upd_nil]
  show (if x = b then some vb else H x) = H x
  by_cases e : x = b
  · rw [if_pos e, e, h]
  · rw [if_neg e]

theorem does_appFin (hT : TOk P T) {t ty : TypeId} {k : RK} {ys : List (El k)} {sv : SV} {vs : Value} {a' : Option Addr} {c' : Nat} (hR : Rel m Imm H w) (hc : Clean key H) (hs : V m sv vs)
    (hy : ys ≠ [] → ∃ blk off, a' = some ⟨blk, off, none⟩ ∧ Reads Imm w ⟨blk, off, sz k, c', ys.length⟩ k ys) (hk : kindS T t = some k) (h : Holds (appTo T t key H k sv ys) s u) :
    Does P (Builtin.append_ #[t, t] ty #[vs, .slice a' ys.length c']) m Imm H w key s u := by
  obtain ⟨e, inf, z, hu, hi, hz, hsz, hb, hzs, hzo⟩ := kindS_ok hT hk
  have hfree := hc key (inRange_self key)
  have hr := inRange_self key
  obtain ⟨news, l1, l2, l3, l4⟩ := slice_cells hy
  unfold appTo at h
  split at h
  · cases hs
    unfold appFin at h
    cases hq : Nat.beq (bytesS T t) 0 with
    | true => rw [hq] at h; exact h.fail.elim
    | false =>
      rw [hq] at h
      obtain ⟨hbound, rfl, rfl⟩ := h.vc
      have hbp : 1 ≤ bytesS T t := by rw [beqN] at hq; simp at hq; omega
      by_cases hy0 : ys = []
      · subst hy0
        refine ⟨_, _, setM m key ⟨0, 0, sz k, 0, 0⟩, Imm, run_append_none hu hi (Nat.le_refl 0), .slF0 key _ (by rw [setM_at]), ?_⟩
        have := Step.noRow (key := key) hR hfree hr true k 0 0
        simpa using this
      · have hpos : 0 < ys.length := List.length_pos_iff.2 hy0
        obtain ⟨blk, off, rfl, _⟩ := hy hy0
        simp only [List.length_nil, Nat.zero_add] at hbound
        have hle : ys.length * 1 ≤ ys.length * bytesS T t := Nat.mul_le_mul_left _ hbp
        have hrun := run_append_nil (P := P) w t ty e inf z hu hi hz ⟨blk, off, none⟩ ys.length c' news (by rw [l1, hsz]) (l2 _ rfl) hpos (by omega) (by rw [hb]; omega)
        have hcap : ys.length ≤ grownCap w ys.length 0 e := by unfold grownCap; simp [Question.cut]
        refine ⟨_, _, setM m key ⟨w.heap.size, 0, sz k, grownCap w ys.length 0 e, ys.length⟩, Imm, hrun, ?_, ?_⟩
        · exact slF_new m key ⟨w.heap.size, 0, sz k, grownCap w ys.length 0 e, ys.length⟩ _ hcap (Nat.le_refl _)
        · have := grown_row (e := e) (z := z.cells) (olds := []) (news := news) (xs := ([] : List (El k))) (ys := ys) (C := grownCap w ys.length 0 e) hR hc (w0 := w.drew) rfl (drew_calm w) (by simpa using hcap) hzs (by simp) (fun i j e h => by simp at h) l1 l4
          simpa using this
  · rename_i b
    split at h
    · rename_i k' xs' hb'
      split at h
      · rename_i xs hcast
        obtain ⟨rfl, rfl⟩ := castK_some hcast
        simp only at h hb'
        unfold appFin at h
        cases hq : Nat.beq (bytesS T t) 0 with
        | true => rw [hq] at h; exact h.fail.elim
        | false =>
          rw [hq] at h
          obtain ⟨hbound, rfl, rfl⟩ := h.vc
          have hbp : 1 ≤ bytesS T t := by rw [beqN] at hq; simp at hq; omega
          have hle : (xs'.length + ys.length) * 1 ≤ (xs'.length + ys.length) * bytesS T t := Nat.mul_le_mul_left _ hbp
          have hsum : xs'.length + ys.length ≤ 140737488355328 := by omega
          obtain ⟨p1, p2, p3, p4, p5, _⟩ := hR.hold b _ hb'
          obtain ⟨a, cp, rfl, g1, g2⟩ := hs.whole
          have hne : b ≠ key := by rintro rfl; exact hfree (.inl (by rw [hb']; simp))
          have hfd : ¬ UsedIn (upd [(b, none)] H) key := by
            rintro (hn | ⟨b', cs', hb2, hx⟩)
            · apply hn; rw [upd_cons, upd_nil]; simp only; rw [if_neg (Ne.symm hne)]; exact hc.none hr
            · rcases upd_cases hb2 with hp | ⟨_, hp⟩
              · simp at hp
              · exact hfree (.inr ⟨b', cs', hp, hx⟩)
          have hst := Step.drop hR b key
          have swap : upd [(key, some (VB.row true k' (xs' ++ ys)))] (upd [(b, none)] H) = upd [(key, some (VB.row true k' (xs' ++ ys))), (b, none)] H := by rw [← upd_append]; rfl
          have hlen : (m b).len = xs'.length := p2
          by_cases hy0 : ys = []
          · -- nothing is appended
            subst hy0
            have hrun := run_append_none (P := P) (w := w) (ty := ty) hu hi (a := a) (a' := a') (n := (m b).len) (c := cp) (c' := c') g1
            by_cases hcap0 : 0 < (m b).cap
            · refine ⟨_, _, setM m key (m b), Imm, hrun, ?_, ?_⟩
              · exact hs.slF_as key
              · have := Step.move (key := key) (w' := w) (vb' := .row true k' xs') hR hb' hcap0 hfree hr (m b) rfl (Calm.refl w) (fun _ _ => rfl) ((hR.hold b _ hb').stays (fun _ h => h) (fun _ _ => rfl) (fun _ => rfl) (fun cs h => by cases h))
                simpa using this
            · have hx0 : xs' = [] := List.length_eq_zero_iff.1 (by omega)
              subst hx0
              have hc0 : cp = 0 := by
                rcases Nat.eq_zero_or_pos cp with h | h
                · exact h
                · have := (g2 (.inr (by omega))).2; omega
              subst hc0
              have hl0 : (m b).len = 0 := hlen
              rw [hl0] at hrun
              have := hst.trans (Step.noRow (key := key) hst.rel hfd hr true k' 0 0)
              rw [← upd_append] at this
              exact ⟨_, _, setM m key ⟨0, 0, sz k', 0, 0⟩, Imm, by rw [hl0]; exact hrun, .slF0 key a (by rw [setM_at]), by simpa using this⟩
          · have hpos : 0 < ys.length := List.length_pos_iff.2 hy0
            obtain ⟨blk, off, rfl, _⟩ := hy hy0
            have hnl : news.length = ys.length * inf.size := by rw [l1, hsz]
            by_cases hroom : (m b).len + ys.length ≤ cp
            · -- there is room
              obtain ⟨rfl, hcc⟩ := g2 (.inr (by omega))
              have hcap0 : 0 < (m b).cap := by omega
              obtain ⟨p0, arr, ty', hh, hasz⟩ := p5 rfl hcap0
              have hfit : (m b).len * inf.size + news.length ≤ arr.size := by
                rw [hnl, ← Nat.add_mul, hasz, hsz]; exact Nat.mul_le_mul_right _ (by omega)
              have hone : ∀ v ∈ news, v.oneCell' = true := by
                intro v hv
                obtain ⟨j, hj, rfl⟩ := List.getElem_of_mem hv
                have hj2 : j < (ys.flatMap (enc k')).length := by rw [flat_length, ← l1]; exact hj
                obtain ⟨v', g5, g6⟩ := l4 j _ (List.getElem?_eq_getElem hj2)
                rw [List.getElem?_eq_getElem hj] at g5
                obtain rfl := Option.some.inj g5
                exact one_of_enc g6 (List.getElem_mem hj2)
              have hrun : (Builtin.append_ #[t, t] ty #[.slice (some ⟨(m b).blk, (m b).off, none⟩) (m b).len cp, .slice (some ⟨blk, off, none⟩) ys.length c']).run P w =
                  .ok (.slice (some ⟨(m b).blk, (m b).off, none⟩) ((m b).len + ys.length) cp) (w.setRow (m b).blk (splice arr.toList ((m b).len * inf.size) news).toArray) := by
                rw [p0]
                have hf := run_firstCells_some (P := P) w inf.size ys.length ⟨blk, off, none⟩ ys.length c' news hnl (l2 _ rfl)
                have hst2 := run_storeCells_at P (m b).blk ((m b).len * inf.size) ty' news 0 arr w hh (by simpa using hfit) hone
                simp only [Nat.add_zero] at hst2
                simp [Builtin.append_, run_underlying hu, sizeOf, typeInfo, hi, Builtin.lenOf, hroom, hf, Addr.add_lit, hst2, splice]
              refine ⟨_, _, setM m key { m b with len := (m b).len + ys.length }, Imm, hrun, ?_, ?_⟩
              · exact slF_new m key { m b with len := (m b).len + ys.length } cp hroom hcc
              · have hcells := cells_append (k := k') (xs := xs') (ys := ys) (arr := arr.toList) (news := news) (Imm := Imm) (w := w) (fun i j e hi' he => by
                  obtain ⟨v, g5, g6⟩ := p4 i j e hi' he
                  rw [p0, Nat.zero_add, cell_row hh] at g5
                  exact ⟨v, g5, g6⟩) l4 (full := splice arr.toList ((m b).len * inf.size) news)
                  (fun i hi' => by rw [splice_get (by simpa using hfit), if_neg (by rw [hlen, hsz]; omega)])
                  (fun i hi' => by rw [splice_get (by simpa using hfit), hlen, hsz, if_pos (by omega)]; congr 1; omega)
                refine Step.move (key := key) (vb' := .row true k' (xs' ++ ys)) hR hb' hcap0 hfree hr { m b with len := (m b).len + ys.length } rfl (calm_setRow w _ _) (fun r hr => setRow_other hr) ⟨p1, by simp [hlen], by simp; omega, ?_, fun _ _ => ⟨p0, _, ty', setRow_at hh, ?_⟩, fun h => by cases h⟩
                · intro i j e hi' he
                  obtain ⟨v, g5, g6⟩ := hcells i j e hi' he
                  refine ⟨v, ?_, g6.stays (fun _ h => h) (fun r hr => setRow_other (by rintro rfl; exact hR.apart b _ hb' hcap0 hr))⟩
                  rw [p0, Nat.zero_add, cell_row (setRow_at hh)]
                  exact g5
                · rw [List.size_toArray, splice_length (by simpa using hfit), Array.length_toList, hasz]
            · -- a new block
              have fin : ∀ {v : Value} {C : Nat} {olds : List Value}, xs'.length + ys.length ≤ C → olds.length = xs'.length * sz k' → (∀ i j e, i < xs'.length → (enc k' (xs'.getD i (zK k')))[j]? = some e → ∃ v, olds[i * sz k' + j]? = some v ∧ CV Imm w e v) →
                  v = .slice (some ⟨w.heap.size, 0, none⟩) (xs'.length + ys.length) C →
                  (Builtin.append_ #[t, t] ty #[.slice a (m b).len cp, .slice (some ⟨blk, off, none⟩) ys.length c']).run P w = .ok v (w.drew.alloc (.cells (olds.toArray ++ news.toArray ++ Builtin.zeroCells z.cells (C - (xs'.length + ys.length))) e)) →
                  Does P (Builtin.append_ #[t, t] ty #[.slice a (m b).len cp, .slice (some ⟨blk, off, none⟩) ys.length c']) m Imm H w key (.slF key) [(key, some (.row true k' (xs' ++ ys))), (b, none)] := by
                intro v C olds hC ho h1 hv hrun
                have hgr := grown_row (e := e) (z := z.cells) (olds := olds) (news := news) (xs := xs') (ys := ys) (C := C) hst.rel (fun x hx => by
                  rintro (hn | ⟨b', cs', hb2, hxx⟩)
                  · apply hn; rw [upd_cons, upd_nil]; simp only; split
                    · rfl
                    · exact hc.none hx
                  · rcases upd_cases hb2 with hp | ⟨_, hp⟩
                    · simp at hp
                    · exact hc x hx (.inr ⟨b', cs', hp, hxx⟩)) (w0 := w.drew) rfl (drew_calm w) hC hzs ho h1 l1 l4
                have h2 := hst.trans hgr
                rw [swap] at h2
                refine ⟨v, _, _, Imm, hrun, ?_, h2⟩
                subst hv
                have := slF_new m key ⟨w.heap.size, 0, sz k', C, (xs' ++ ys).length⟩ C (by simpa using hC) (Nat.le_refl _)
                simpa using this
              have hcap : ∀ q, xs'.length + ys.length ≤ grownCap w (xs'.length + ys.length) q e := by intro q; unfold grownCap; simp [Question.cut]
              by_cases hl0 : (m b).len = 0
              · have hx0 : xs' = [] := List.length_eq_zero_iff.1 (by omega)
                subst hx0
                cases ha : a with
                | none =>
                  have hc0 : cp = 0 := by
                    rcases Nat.eq_zero_or_pos cp with h | h
                    · exact h
                    · have := (g2 (.inr (by omega))).1; rw [ha] at this; cases this
                  subst ha
                  subst hc0
                  have hrun := run_append_nil (P := P) w t ty e inf z hu hi hz ⟨blk, off, none⟩ ys.length c' news hnl (l2 _ rfl) hpos (by simp at hsum; omega) (by rw [hb]; simp at hbound; omega)
                  refine fin (C := grownCap w ys.length 0 e) (olds := []) (by simpa using hcap 0) (by simp) (fun i j e h => by simp at h) rfl ?_
                  rw [hl0]
                  simpa using hrun
                | some ad =>
                  subst ha
                  have hrun := run_append_grow (P := P) w t ty e inf z hu hi hz ad 0 cp [] (by simp) (fun j v h => by simp at h) ⟨blk, off, none⟩ ys.length c' news hnl (l2 _ rfl) (by omega) (by simp at hsum ⊢; omega) (growslice_fits (by omega) (by rw [hb]; simp at hbound ⊢; omega))
                  refine fin (C := grownCap w ys.length cp e) (olds := []) (by simpa using hcap cp) (by simp) (fun i j e h => by simp at h) rfl ?_
                  rw [hl0]
                  simpa using hrun
              · obtain ⟨rfl, hcc⟩ := g2 (.inl hl0)
                have hcap0 : 0 < (m b).cap := by omega
                obtain ⟨p0, arr, ty', hh, hasz⟩ := p5 rfl hcap0
                have htl : (arr.toList.take (xs'.length * sz k')).length = xs'.length * sz k' := by
                  have ha : arr.toList.length = (m b).cap * sz k' := by rw [Array.length_toList, hasz]
                  rw [List.length_take, ha]
                  exact Nat.min_eq_left (Nat.mul_le_mul_right _ p3)
                have hrun := run_append_grow (P := P) w t ty e inf z hu hi hz ⟨(m b).blk, (m b).off, none⟩ (m b).len cp (arr.toList.take (xs'.length * sz k')) (by rw [htl, hlen, hsz]) (fun j v h => by
                  rw [List.getElem?_take] at h
                  split at h
                  · rw [Addr.add_mid, p0, Nat.zero_add, cell_row hh]; exact h
                  · cases h) ⟨blk, off, none⟩ ys.length c' news hnl (l2 _ rfl) (by omega) (by rw [hlen]; omega) (growslice_fits (by omega) (by rw [hb, hlen]; exact hbound))
                refine fin (C := grownCap w (xs'.length + ys.length) cp e) (olds := arr.toList.take (xs'.length * sz k')) (hcap cp) htl (fun i j e hi' he => by
                  obtain ⟨v, g5, g6⟩ := p4 i j e hi' he
                  rw [p0, Nat.zero_add, cell_row hh] at g5
                  refine ⟨v, ?_, g6⟩
                  have hj : j < sz k' := by have := (List.getElem?_eq_some_iff.1 he).1; rwa [enc_length] at this
                  have : (i + 1) * sz k' ≤ xs'.length * sz k' := Nat.mul_le_mul_right _ hi'
                  rw [List.getElem?_take, if_pos (by rw [Nat.add_mul] at this; omega)]
                  exact g5) rfl ?_
                rw [hlen] at hrun ⊢
                exact hrun
      · exact h.fail.elim
    · exact h.fail.elim
  · rename_i b i n
    split at h
    · rename_i k' xs' hb'
      split at h
      · rename_i xs hcast
        obtain ⟨rfl, rfl⟩ := castK_some hcast
        simp only at h hb'
        obtain ⟨hfit, rfl, rfl⟩ := h.vc
        obtain ⟨p1, p2, p3, p4, p5, _⟩ := hR.hold b _ hb'
        obtain ⟨a, cp, rfl, g1, g2, g4⟩ := hs.cut
        by_cases hy0 : ys = []
        · subst hy0
          have hrun := run_append_none (P := P) (w := w) (ty := ty) hu hi (a := a) (a' := a') (n := n) (c := cp) (c' := c') g1
          refine ⟨_, _, m, Imm, hrun, by simpa using hs, ?_⟩
          rw [splice_nil, upd_same_at hb']
          exact .refl hR key
        · have hpos : 0 < ys.length := List.length_pos_iff.2 hy0
          obtain ⟨blk, off, rfl, _⟩ := hy hy0
          have hroom : n + ys.length ≤ cp := by omega
          obtain ⟨rfl, hcc, _⟩ := g2 (.inr (by omega))
          obtain ⟨arr, ty', hh, p0, hfit2, hone, hst⟩ := splice_row hR hb' hfit hy0 l1 l4 key
          have hnl : news.length = ys.length * inf.size := by rw [l1, hsz]
          have hrun : (Builtin.append_ #[t, t] ty #[.slice (some ⟨(m b).blk, (m b).off + i * (m b).sz, none⟩) n cp, .slice (some ⟨blk, off, none⟩) ys.length c']).run P w =
              .ok (.slice (some ⟨(m b).blk, (m b).off + i * (m b).sz, none⟩) (n + ys.length) cp) (w.setRow (m b).blk (splice arr.toList ((i + n) * sz k') news).toArray) := by
            rw [p0, p1]
            have hf := run_firstCells_some (P := P) w inf.size ys.length ⟨blk, off, none⟩ ys.length c' news hnl (l2 _ rfl)
            have hst2 := run_storeCells_at P (m b).blk ((i + n) * sz k') ty' news 0 arr w hh (by simpa using hfit2) hone
            simp only [Nat.add_zero] at hst2
            rw [hsz] at hf
            rw [Nat.zero_add]
            have hadd : (⟨(m b).blk, i * sz k', none⟩ : Addr).add (n * sz k') = ⟨(m b).blk, (i + n) * sz k', none⟩ := by rw [Addr.add_mid, Nat.add_mul]
            simp [Builtin.append_, run_underlying hu, sizeOf, typeInfo, hi, Builtin.lenOf, hroom, hf, hadd, hsz, hst2, splice]
          refine ⟨_, _, m, Imm, hrun, ?_, hst⟩
          exact .slP b i (n + ys.length) cp hroom hcc (by omega) g4
      · exact h.fail.elim
    · exact h.fail.elim
  · exact h.fail.elim

theorem does_append (hT : TOk P T) {t ty : TypeId} {x sv : SV} {vs vx : Value} (hR : Rel m Imm H w) (hc : Clean key H) (hs : V m sv vs) (hx : V m x vx) (h : Holds (evAppend T t sv x H key) s u) :
    Does P (Builtin.append_ #[t, t] ty #[vs, vx]) m Imm H w key s u := by
  unfold evAppend at h
  split at h
  · exact h.fail.elim
  · rename_i k hk
    split at h
    · cases hx
      exact does_appFin (ys := ([] : List (El k))) hT hR hc hs (fun h => absurd rfl h) hk h
    · split at h
      · rename_i k' ys' hsl
        split at h
        · rename_i ys hcast
          obtain ⟨rfl, rfl⟩ := castK_some hcast
          obtain ⟨a, c, rfl, h1, h2⟩ := slice_read hR hx hsl
          exact does_appFin hT hR hc hs h2 hk h
        · exact h.fail.elim
      · exact h.fail.elim

theorem zeroCells_eq {z : Array Value} (hz : 0 < z.size) (n : Nat) : (Builtin.zeroCells z n).toList = zerosOf z.toList n := zeros_array hz n
theorem zero_flat {k : RK} {z : List Value} (hz : ZeroOk k z) {n : Nat} : ∀ (j : Nat) (e : CS), ((List.replicate n (zK k)).flatMap (enc k))[j]? = some e → ∃ v, (zerosOf z n)[j]? = some v ∧ CV Imm w e v := by
  intro j e he
  have hlt := (List.getElem?_eq_some_iff.1 he).1
  rw [flat_length, List.length_replicate] at hlt
  have hp := sz_pos k
  have hm : j % sz k < sz k := Nat.mod_lt _ hp
  have hq : j / sz k < n := (Nat.div_lt_iff_lt_mul hp).2 hlt
  have hj : j = j / sz k * sz k + j % sz k := by rw [Nat.mul_comm]; exact (Nat.div_add_mod j (sz k)).symm
  rw [hj] at he ⊢
  rw [flat_get hm _ _ (by simpa using hq)] at he
  exact zero_cells hz (Nat.le_refl n) _ _ _ hq he
theorem run_append_zeros (w : World) (t t' ty e : TypeId) (k k' : IntKind) (i : TypeInfo) (z : Value) (ht : P.underlying t = some (.slice e)) (ht' : P.underlying t' = some (.int k)) (hi : P.info? e = some i) (hz : i.zero = some z)
    (n : Nat) (h0 : 0 < n) (hs : 0 < i.size) (h63 : n ≤ 1099511627776) (h48 : n * i.bytes ≤ 140737488355328) :
    (Builtin.append_ #[t, t'] ty #[.slice none 0 0, .int k' n]).run P w =
      .ok (.slice (some ⟨w.heap.size, 0, none⟩) n (grownCap w n 0 e)) (w.drew.alloc (.cells (Builtin.zeroCells z.cells n ++ Builtin.zeroCells z.cells (grownCap w n 0 e - n)) e)) := by
  have hn : n ≠ 0 := by omega
  have h63' : ¬ (9223372036854775807 < (n : Int)) := by omega
  have h48' : ¬ (281474976710656 < Builtin.nextslicecap n 0 * i.bytes) := by rw [nextslicecap_zero h0]; omega
  have hw : IntKind.i64.wrap (n : Int) = n := by rw [IntKind.wrap_i64]; omega
  have hng : ¬ ((n : Int) < 0) := by omega
  have hb : ¬ (281474976710656 < (n : Int) * i.bytes) := by
    have : ((n * i.bytes : Nat) : Int) = (n : Int) * i.bytes := by push_cast; rfl
    omega
  have hns : ¬ (n * i.size = 0) := by
    intro h
    rcases Nat.mul_eq_zero.1 h with h | h <;> omega
  have hs0 : i.size ≠ 0 := by omega
  simp [Builtin.append_, run_underlying ht, run_underlying ht', sizeOf, typeInfo, zeroValue, hi, hz, hw, hng, hb, hn, hs0, h63', h48', Question.forced, run_firstCells_none, newRow, grownCap, asInt, asIntOf]
  exact fun h => absurd h hns
theorem run_append_zeros_none (w : World) (t t' ty e : TypeId) (k k' : IntKind) (i : TypeInfo) (ht : P.underlying t = some (.slice e)) (ht' : P.underlying t' = some (.int k)) (hi : P.info? e = some i) :
    (Builtin.append_ #[t, t'] ty #[.slice none 0 0, .int k' 0]).run P w = .ok (.slice none 0 0) w := by
  have hw : IntKind.i64.wrap 0 = 0 := by rw [IntKind.wrap_i64]; omega
  simp [Builtin.append_, run_underlying ht, run_underlying ht', sizeOf, typeInfo, hi, hw, asInt, asIntOf]
theorem run_append_zeros_id (w : World) (t t' ty e : TypeId) (k k' : IntKind) (i : TypeInfo) (ht : P.underlying t = some (.slice e)) (ht' : P.underlying t' = some (.int k)) (hi : P.info? e = some i) {a : Option Addr} {n c : Nat} (hnc : n ≤ c) :
    (Builtin.append_ #[t, t'] ty #[.slice a n c, .int k' 0]).run P w = .ok (.slice a n c) w := by
  have hw : IntKind.i64.wrap 0 = 0 := by rw [IntKind.wrap_i64]; omega
  cases a <;> simp [Builtin.append_, run_underlying ht, run_underlying ht', sizeOf, typeInfo, hi, hw, hnc, storeCells, asInt, asIntOf]
theorem does_appZ_own (hT : TOk P T) {t t' ty : TypeId} {k' : RK} {xs' : List (El k')} {b n : Nat} {vs : Value} {ik xk : IntKind} (hR : Rel m Imm H w) (hc : Clean key H) (hs : V m (.slF b) vs) (hb' : H b = some (.row true k' xs'))
    (hk : kindS T t = some k') (hu' : P.underlying t' = some (.int ik)) (hq : Nat.beq (bytesS T t) 0 = false) (hn40 : n ≤ 1099511627776) (hbound : (xs'.length + n) * bytesS T t ≤ 140737488355328) :
    Does P (Builtin.append_ #[t, t'] ty #[vs, .int xk n]) m Imm H w key (.slF key) [(key, some (.row true k' (xs' ++ List.replicate n (zK k')))), (b, none)] := by
  obtain ⟨e, inf, z, hu, hi, hz, hsz, hb, hzs, hzo⟩ := kindS_ok hT hk
  have hfree := hc key (inRange_self key)
  have hr := inRange_self key
  have hzp : 0 < z.cells.size := by rw [hzs]; exact sz_pos k'
  have hzl : z.cells.toList.length = sz k' := by rw [Array.length_toList, hzs]
  have hyl : (List.replicate n (zK k')).length = n := List.length_replicate
  have l1 : (Builtin.zeroCells z.cells n).toList.length = (List.replicate n (zK k')).length * sz k' := by rw [zeroCells_eq hzp, zerosOf_length, hzl, hyl]
  have l4 : ∀ (j : Nat) (e : CS), ((List.replicate n (zK k')).flatMap (enc k'))[j]? = some e → ∃ v, (Builtin.zeroCells z.cells n).toList[j]? = some v ∧ CV Imm w e v := by rw [zeroCells_eq hzp]; exact zero_flat hzo
  generalize hys : List.replicate n (zK k') = ys at *
  generalize hnews : (Builtin.zeroCells z.cells n).toList = news at *
  have hna : Builtin.zeroCells z.cells n = news.toArray := by rw [← hnews]
  have hbp : 1 ≤ bytesS T t := by rw [beqN] at hq; simp at hq; omega
  have hle : (xs'.length + n) * 1 ≤ (xs'.length + n) * bytesS T t := Nat.mul_le_mul_left _ hbp
  have hle2 : n * bytesS T t ≤ (xs'.length + n) * bytesS T t := Nat.mul_le_mul_right _ (Nat.le_add_left _ _)
  have hsum : xs'.length + n ≤ 140737488355328 := by omega
  obtain ⟨p1, p2, p3, p4, p5, _⟩ := hR.hold b _ hb'
  obtain ⟨a, cp, rfl, g1, g2⟩ := hs.whole
  have hne : b ≠ key := by rintro rfl; exact hfree (.inl (by rw [hb']; simp))
  have hfd : ¬ UsedIn (upd [(b, none)] H) key := by
    rintro (hn | ⟨b', cs', hb2, hx⟩)
    · apply hn; rw [upd_cons, upd_nil]; simp only; rw [if_neg (Ne.symm hne)]; exact hc.none hr
    · rcases upd_cases hb2 with hp | ⟨_, hp⟩
      · simp at hp
      · exact hfree (.inr ⟨b', cs', hp, hx⟩)
  have hst := Step.drop hR b key
  have swap : upd [(key, some (VB.row true k' (xs' ++ ys)))] (upd [(b, none)] H) = upd [(key, some (VB.row true k' (xs' ++ ys))), (b, none)] H := by rw [← upd_append]; rfl
  have hlen : (m b).len = xs'.length := p2
  by_cases hn0 : n = 0
  · -- nothing is appended
    have hy0 : ys = [] := List.length_eq_zero_iff.1 (by omega)
    subst hy0
    subst hn0
    have hrun := run_append_zeros_id w t t' ty e ik xk inf hu hu' hi (a := a) (n := (m b).len) (c := cp) g1
    by_cases hcap0 : 0 < (m b).cap
    · refine ⟨_, _, setM m key (m b), Imm, hrun, ?_, ?_⟩
      · exact hs.slF_as key
      · have := Step.move (key := key) (w' := w) (vb' := .row true k' xs') hR hb' hcap0 hfree hr (m b) rfl (Calm.refl w) (fun _ _ => rfl) ((hR.hold b _ hb').stays (fun _ h => h) (fun _ _ => rfl) (fun _ => rfl) (fun cs h => by cases h))
        simpa using this
    · have hx0 : xs' = [] := List.length_eq_zero_iff.1 (by omega)
      subst hx0
      have hc0 : cp = 0 := by
        rcases Nat.eq_zero_or_pos cp with h | h
        · exact h
        · have := (g2 (.inr (by omega))).2; omega
      subst hc0
      have hl0 : (m b).len = 0 := hlen
      rw [hl0] at hrun
      have := hst.trans (Step.noRow (key := key) hst.rel hfd hr true k' 0 0)
      rw [← upd_append] at this
      exact ⟨_, _, setM m key ⟨0, 0, sz k', 0, 0⟩, Imm, by rw [hl0]; exact hrun, .slF0 key a (by rw [setM_at]), by simpa using this⟩
  · have hpos : 0 < ys.length := by omega
    have hnl : news.length = n * inf.size := by rw [l1, hyl, hsz]
    have hsp : 0 < inf.size := by rw [hsz]; exact sz_pos k'
    by_cases hroom : (m b).len + n ≤ cp
    · -- there is room
      obtain ⟨rfl, hcc⟩ := g2 (.inr (by omega))
      have hcap0 : 0 < (m b).cap := by omega
      obtain ⟨p0, arr, ty', hh, hasz⟩ := p5 rfl hcap0
      have hfit : (m b).len * inf.size + news.length ≤ arr.size := by
        rw [hnl, ← Nat.add_mul, hasz, hsz]; exact Nat.mul_le_mul_right _ (by omega)
      have hone : ∀ v ∈ news, v.oneCell' = true := by
        intro v hv
        obtain ⟨j, hj, rfl⟩ := List.getElem_of_mem hv
        have hj2 : j < (ys.flatMap (enc k')).length := by rw [flat_length, ← l1]; exact hj
        obtain ⟨v', g5, g6⟩ := l4 j _ (List.getElem?_eq_getElem hj2)
        rw [List.getElem?_eq_getElem hj] at g5
        obtain rfl := Option.some.inj g5
        exact one_of_enc g6 (List.getElem_mem hj2)
      have hrun : (Builtin.append_ #[t, t'] ty #[.slice (some ⟨(m b).blk, (m b).off, none⟩) (m b).len cp, .int xk n]).run P w =
          .ok (.slice (some ⟨(m b).blk, (m b).off, none⟩) ((m b).len + n) cp) (w.setRow (m b).blk (splice arr.toList ((m b).len * inf.size) news).toArray) := by
        rw [p0]
        have hst2 := run_storeCells_at P (m b).blk ((m b).len * inf.size) ty' news 0 arr w hh (by simpa using hfit) hone
        simp only [Nat.add_zero] at hst2
        have hw : IntKind.i64.wrap (n : Int) = n := by rw [IntKind.wrap_i64]; omega
        have hng : ¬ ((n : Int) < 0) := by omega
        have hb48 : ¬ (281474976710656 < (n : Int) * (inf.bytes : Int)) := by
          rw [← Int.natCast_mul, hb]
          omega
        have hns : ¬ (n * inf.size = 0) := Nat.mul_ne_zero hn0 (by omega)
        have hs0 : inf.size ≠ 0 := by omega
        simp [Builtin.append_, run_underlying hu, run_underlying hu', sizeOf, typeInfo, zeroValue, hi, hz, hroom, hw, hng, hb48, hn0, hs0, asInt, asIntOf, hna, Addr.add_lit, hst2, splice]
        exact fun h => absurd h hns
      refine ⟨_, _, setM m key { m b with len := (m b).len + n }, Imm, hrun, ?_, ?_⟩
      · exact slF_new m key { m b with len := (m b).len + n } cp hroom hcc
      · have hcells := cells_append (k := k') (xs := xs') (ys := ys) (arr := arr.toList) (news := news) (Imm := Imm) (w := w) (fun i j e hi' he => by
          obtain ⟨v, g5, g6⟩ := p4 i j e hi' he
          rw [p0, Nat.zero_add, cell_row hh] at g5
          exact ⟨v, g5, g6⟩) l4 (full := splice arr.toList ((m b).len * inf.size) news)
          (fun i hi' => by rw [splice_get (by simpa using hfit), if_neg (by rw [hlen, hsz]; omega)])
          (fun i hi' => by rw [splice_get (by simpa using hfit), hlen, hsz, if_pos (by omega)]; congr 1; omega)
        refine Step.move (key := key) (vb' := .row true k' (xs' ++ ys)) hR hb' hcap0 hfree hr { m b with len := (m b).len + n } rfl (calm_setRow w _ _) (fun r hr => setRow_other hr) ⟨p1, by simp [hlen, hyl], by simp; omega, ?_, fun _ _ => ⟨p0, _, ty', setRow_at hh, ?_⟩, fun h => by cases h⟩
        · intro i j e hi' he
          obtain ⟨v, g5, g6⟩ := hcells i j e hi' he
          refine ⟨v, ?_, g6.stays (fun _ h => h) (fun r hr => setRow_other (by rintro rfl; exact hR.apart b _ hb' hcap0 hr))⟩
          rw [p0, Nat.zero_add, cell_row (setRow_at hh)]
          exact g5
        · rw [List.size_toArray, splice_length (by simpa using hfit), Array.length_toList, hasz]
    · -- a new block
      have fin : ∀ {v : Value} {C : Nat} {olds : List Value}, xs'.length + ys.length ≤ C → olds.length = xs'.length * sz k' → (∀ i j e, i < xs'.length → (enc k' (xs'.getD i (zK k')))[j]? = some e → ∃ v, olds[i * sz k' + j]? = some v ∧ CV Imm w e v) →
          v = .slice (some ⟨w.heap.size, 0, none⟩) (xs'.length + ys.length) C →
          (Builtin.append_ #[t, t'] ty #[.slice a (m b).len cp, .int xk n]).run P w = .ok v (w.drew.alloc (.cells (olds.toArray ++ news.toArray ++ Builtin.zeroCells z.cells (C - (xs'.length + ys.length))) e)) →
          Does P (Builtin.append_ #[t, t'] ty #[.slice a (m b).len cp, .int xk n]) m Imm H w key (.slF key) [(key, some (.row true k' (xs' ++ ys))), (b, none)] := by
        intro v C olds hC ho h1 hv hrun
        have hgr := grown_row (e := e) (z := z.cells) (olds := olds) (news := news) (xs := xs') (ys := ys) (C := C) hst.rel (fun x hx => by
          rintro (hn | ⟨b', cs', hb2, hxx⟩)
          · apply hn; rw [upd_cons, upd_nil]; simp only; split
            · rfl
            · exact hc.none hx
          · rcases upd_cases hb2 with hp | ⟨_, hp⟩
            · simp at hp
            · exact hc x hx (.inr ⟨b', cs', hp, hxx⟩)) (w0 := w.drew) rfl (drew_calm w) hC hzs ho h1 l1 l4
        have h2 := hst.trans hgr
        rw [swap] at h2
        refine ⟨v, _, _, Imm, hrun, ?_, h2⟩
        subst hv
        have := slF_new m key ⟨w.heap.size, 0, sz k', C, (xs' ++ ys).length⟩ C (by simpa using hC) (Nat.le_refl _)
        simpa using this
      have hcap : ∀ q, xs'.length + ys.length ≤ grownCap w (xs'.length + n) q e := by intro q; rw [hyl]; unfold grownCap; simp [Question.cut]
      by_cases hl0 : (m b).len = 0
      · have hx0 : xs' = [] := List.length_eq_zero_iff.1 (by omega)
        subst hx0
        have hrun := Lib.run_append_grow_zeros (P := P) w t t' ty e inf z xk ik hu hu' hi hz a 0 cp [] (by cases a <;> simp [Builtin.firstCells, loadCells, loadCellsFrom]) n (by omega) hsp (by omega) (by simp at hsum; omega) (by rw [hb]; omega) (growslice_fits (by omega) (by rw [hb]; simp at hbound ⊢; omega))
        refine fin (C := grownCap w n cp e) (olds := []) (by have := hcap cp; simpa using this) (by simp) (fun i j e h => by simp at h) rfl ?_
        rw [hl0, hyl]
        rw [hna] at hrun
        simpa using hrun
      · obtain ⟨rfl, hcc⟩ := g2 (.inl hl0)
        have hcap0 : 0 < (m b).cap := by omega
        obtain ⟨p0, arr, ty', hh, hasz⟩ := p5 rfl hcap0
        have htl : (arr.toList.take (xs'.length * sz k')).length = xs'.length * sz k' := by
          have ha : arr.toList.length = (m b).cap * sz k' := by rw [Array.length_toList, hasz]
          rw [List.length_take, ha]
          exact Nat.min_eq_left (Nat.mul_le_mul_right _ p3)
        have hfo := run_firstCells_some (P := P) w.drew inf.size (m b).len ⟨(m b).blk, (m b).off, none⟩ (m b).len cp (arr.toList.take (xs'.length * sz k')) (by rw [htl, hlen, hsz]) (fun j v h => by
          rw [List.getElem?_take] at h
          split at h
          · show w.cell? _ = some v
            rw [Addr.add_mid, p0, Nat.zero_add, cell_row hh]; exact h
          · cases h)
        have hrun := Lib.run_append_grow_zeros (P := P) w t t' ty e inf z xk ik hu hu' hi hz (some ⟨(m b).blk, (m b).off, none⟩) (m b).len cp _ hfo n (by omega) hsp (by omega) (by rw [hlen]; omega) (by rw [hb]; omega) (growslice_fits (by omega) (by rw [hb, hlen]; exact hbound))
        refine fin (C := grownCap w (xs'.length + n) cp e) (olds := arr.toList.take (xs'.length * sz k')) (hcap cp) htl (fun i j e hi' he => by
          obtain ⟨v, g5, g6⟩ := p4 i j e hi' he
          rw [p0, Nat.zero_add, cell_row hh] at g5
          refine ⟨v, ?_, g6⟩
          have hj : j < sz k' := by have := (List.getElem?_eq_some_iff.1 he).1; rwa [enc_length] at this
          have : (i + 1) * sz k' ≤ xs'.length * sz k' := Nat.mul_le_mul_right _ hi'
          rw [List.getElem?_take, if_pos (by rw [Nat.add_mul] at this; omega)]
          exact g5) rfl ?_
        rw [hlen] at hrun ⊢
        rw [hna] at hrun
        rw [hyl]
        exact hrun
theorem does_appendZ (hT : TOk P T) {t t' ty : TypeId} {x sv : SV} {vs vx : Value} (hR : Rel m Imm H w) (hc : Clean key H) (hs : V m sv vs) (hx : V m x vx) (h : Holds (evAppendZ T t t' sv x H key) s u) :
    Does P (Builtin.append_ #[t, t'] ty #[vs, vx]) m Imm H w key s u := by
  unfold evAppendZ at h
  split at h
  · exact h.fail.elim
  · rename_i kk hk
    obtain ⟨e, inf, z, hu, hi, hz, hsz, hb, hzs, hzo⟩ := kindS_ok hT hk
    split at h
    · rename_i ik _ _ _ _ xk n hti
      have hu' : P.underlying t' = some (.int ik) := (hT t' _ hti).desc
      cases hs; cases hx
      cases hq : Nat.beq (bytesS T t) 0 with
      | true => rw [hq] at h; exact h.fail.elim
      | false =>
        rw [hq] at h
        obtain ⟨⟨h0, h1, h2⟩, rfl, rfl⟩ := h.vc
        obtain ⟨n, rfl⟩ := Int.eq_ofNat_of_zero_le h0
        rw [Int.toNat_natCast] at h2 ⊢
        have hr := inRange_self key
        by_cases hn0 : n = 0
        · subst hn0
          refine ⟨_, _, setM m key ⟨0, 0, sz kk, 0, 0⟩, Imm, run_append_zeros_none w t t' ty e ik xk inf hu hu' hi, .slF0 key none (by rw [setM_at]), ?_⟩
          exact Step.noRow (key := key) hR (hc key hr) hr true kk 0 0
        · have hcap : n ≤ grownCap w n 0 e := by unfold grownCap; simp [Question.cut]
          have hzp : 0 < z.cells.size := by rw [hzs]; exact sz_pos kk
          have hzl : z.cells.toList.length = sz kk := by rw [Array.length_toList, hzs]
          refine ⟨_, _, setM m key ⟨w.heap.size, 0, sz kk, grownCap w n 0 e, n⟩, Imm, run_append_zeros w t t' ty e ik xk inf z hu hu' hi hz n (by omega) (by rw [hsz]; exact sz_pos kk) (by omega) (by rw [hb]; omega), ?_, ?_⟩
          · exact slF_new m key ⟨w.heap.size, 0, sz kk, grownCap w n 0 e, n⟩ _ hcap (Nat.le_refl _)
          · have := grown_row (e := e) (z := z.cells) (olds := []) (news := (Builtin.zeroCells z.cells n).toList) (xs := ([] : List (El kk))) (ys := List.replicate n (zK kk)) (C := grownCap w n 0 e) hR hc (w0 := w.drew) rfl (drew_calm w) (by simpa using hcap) hzs (by simp) (fun i j e h => by simp at h)
              (by rw [zeroCells_eq hzp, zerosOf_length, hzl, List.length_replicate]) (by rw [zeroCells_eq hzp]; exact zero_flat hzo)
            simpa using this
    · rename_i ik _ _ _ _ b xk n hti
      have hu' : P.underlying t' = some (.int ik) := (hT t' _ hti).desc
      cases hx
      cases hq : Nat.beq (bytesS T t) 0 with
      | true => rw [hq] at h; exact h.fail.elim
      | false =>
        rw [hq] at h
        simp only [cond_false] at h
        split at h
        · rename_i k' xs' hb'
          split at h
          · rename_i xs hcast
            obtain ⟨rfl, rfl⟩ := castK_some hcast
            simp only at h hb'
            obtain ⟨⟨h0, h1, h2⟩, rfl, rfl⟩ := h.vc
            obtain ⟨n, rfl⟩ := Int.eq_ofNat_of_zero_le h0
            rw [Int.toNat_natCast] at h2 ⊢
            exact does_appZ_own hT hR hc hs hb' hk hu' hq (by omega) h2
          · exact h.fail.elim
        · exact h.fail.elim
    · exact h.fail.elim
theorem does_clear (hT : TOk P T) {t ty : TypeId} {x : SV} {vx : Value} (hR : Rel m Imm H w) (hx : V m x vx) (h : Holds (evClear T t x H) s u) : Does P (Builtin.clear_ #[t] ty #[vx]) m Imm H w key s u := by
  unfold evClear at h
  split at h
  · exact h.fail.elim
  · rename_i k hk
    obtain ⟨e, inf, z, hu, hi, hz, hsz, hb, hzs, hzo⟩ := kindS_ok hT hk
    have hzp : 0 < z.cells.size := by rw [hzs]; exact sz_pos k
    have hzl : z.cells.toList.length = sz k := by rw [Array.length_toList, hzs]
    have tupV : V m (.tup []) (.tuple #[]) := .tup _ _ .nil
    have zero : ∀ a c, (Builtin.clear_ #[t] ty #[.slice a 0 c]).run P w = .ok (.tuple #[]) w := by
      intro a c
      cases a <;> simp [Builtin.clear_, run_underlying hu]
    have some_ : ∀ {b n off c arr t'}, n ≠ 0 → w.heap[(m b).blk]? = some (.cells arr t' (0, 0)) → off + n * sz k ≤ arr.size → (∀ v ∈ zerosOf z.cells.toList n, v.oneCell' = true) →
        (Builtin.clear_ #[t] ty #[.slice (some ⟨(m b).blk, off, none⟩) n c]).run P w = .ok (.tuple #[]) (w.setRow (m b).blk (splice arr.toList off (zerosOf z.cells.toList n)).toArray) := by
      intro b n off c arr t' hn hh hfit hone
      have hzl2 : (zerosOf z.cells.toList n).length = n * sz k := by rw [zerosOf_length, hzl]
      have hst2 := run_storeCells_at P (m b).blk off t' (zerosOf z.cells.toList n) 0 arr w hh (by rw [hzl2]; simpa using hfit) hone
      simp only [Nat.add_zero] at hst2
      simp [Builtin.clear_, run_underlying hu, run_zeroValue' hi hz, zeroCells_eq hzp, hst2, splice, hn]
    split at h
    · obtain ⟨rfl, rfl⟩ := h.ok
      cases hx
      exact .same hR (zero none 0) tupV
    · rename_i b
      split at h
      · rename_i k' xs' hb'
        split at h
        · rename_i xs hcast
          obtain ⟨rfl, rfl⟩ := castK_some hcast
          simp only at h hb'
          obtain ⟨rfl, rfl⟩ := h.ok
          obtain ⟨p1, p2, p3, p4, p5, _⟩ := hR.hold b _ hb'
          obtain ⟨a, cp, rfl, g1, g2⟩ := hx.whole
          by_cases hx0 : xs' = []
          · subst hx0
            rw [show (m b).len = 0 from p2]
            refine ⟨_, _, m, Imm, zero a cp, tupV, ?_⟩
            simp only [List.length_nil, List.replicate_zero]
            rw [upd_same_at hb']
            exact .refl hR key
          · have hpos : 0 < xs'.length := List.length_pos_iff.2 hx0
            obtain ⟨rfl, _⟩ := g2 (.inl (by omega))
            obtain ⟨arr, ty', hh, p0, hfit2, hone, hst⟩ := splice_row (p := 0) (ys := List.replicate xs'.length (zK k')) (news := zerosOf z.cells.toList xs'.length) hR hb' (by simp) (by simpa using hx0) (by rw [zerosOf_length, hzl]; simp) (zero_flat hzo) key
            have hsp : splice xs' 0 (List.replicate xs'.length (zK k')) = List.replicate xs'.length (zK k') := by simp [splice]
            rw [hsp] at hst
            rw [zerosOf_length, hzl] at hfit2
            refine ⟨_, _, m, Imm, by rw [p0, p2]; exact some_ (by omega) hh (by simpa using hfit2) hone, tupV, by simpa using hst⟩
        · exact h.fail.elim
      · exact h.fail.elim
    · rename_i b i n
      split at h
      · rename_i k' xs' hb'
        split at h
        · rename_i xs hcast
          obtain ⟨rfl, rfl⟩ := castK_some hcast
          simp only at h hb'
          obtain ⟨rfl, rfl⟩ := h.ok
          obtain ⟨p1, p2, p3, p4, p5, _⟩ := hR.hold b _ hb'
          obtain ⟨a, cp, rfl, g1, g2, g4⟩ := hx.cut
          by_cases hn0 : n = 0
          · subst hn0
            refine ⟨_, _, m, Imm, zero a cp, tupV, ?_⟩
            rw [List.replicate_zero, splice_nil, upd_same_at hb']
            exact .refl hR key
          · obtain ⟨rfl, _, hin⟩ := g2 (.inl hn0)
            obtain ⟨arr, ty', hh, p0, hfit2, hone, hst⟩ := splice_row (p := i) (ys := List.replicate n (zK k')) (news := zerosOf z.cells.toList n) hR hb' (by simp; omega) (by simpa using hn0) (by rw [zerosOf_length, hzl]; simp) (zero_flat hzo) key
            rw [zerosOf_length, hzl] at hfit2
            refine ⟨_, _, m, Imm, by rw [p0, p1, Nat.zero_add]; exact some_ hn0 hh hfit2 hone, tupV, hst⟩
        · exact h.fail.elim
      · exact h.fail.elim
    · exact h.fail.elim
theorem does_copy (hT : TOk P T) {t ty : TypeId} {d x : SV} {vd vx : Value} (hR : Rel m Imm H w) (hd : V m d vd) (hx : V m x vx) (h : Holds (evCopy T t d x H) s u) : Does P (Builtin.copy_ #[t, t] ty #[vd, vx]) m Imm H w key s u := by
  unfold evCopy at h
  split at h
  · exact h.fail.elim
  · rename_i k hk
    obtain ⟨e, inf, z, hu, hi, hz, hsz, hb, hzs, hzo⟩ := kindS_ok hT hk
    split at h
    · exact h.fail.elim
    · rename_i k1 ys1 hsl
      split at h
      · exact h.fail.elim
      · rename_i ys hcast
        obtain ⟨rfl, rfl⟩ := castK_some hcast
        simp only at h
        obtain ⟨a', c', rfl, h1, h2⟩ := slice_read hR hx hsl
        -- the first elements of what is copied
        have part : ∀ q, q ≤ ys1.length → ∃ news : List Value, news.length = (ys1.take q).length * sz k1 ∧ (Builtin.firstCells inf.size q (.slice a' ys1.length c')).run P w = .ok news.toArray w ∧
            ∀ (j : Nat) (e : CS), ((ys1.take q).flatMap (enc k1))[j]? = some e → ∃ v, news[j]? = some v ∧ CV Imm w e v := by
          intro q hq
          have hr : ys1.take q ≠ [] → ∃ blk off, a' = some ⟨blk, off, none⟩ ∧ Reads Imm w ⟨blk, off, sz k1, c', (ys1.take q).length⟩ k1 (ys1.take q) := by
            intro hne
            obtain ⟨blk, off, rfl, hr⟩ := h2 (by rintro rfl; simp at hne)
            refine ⟨blk, off, rfl, fun i j e hi' he => ?_⟩
            rw [List.length_take] at hi'
            have : (ys1.take q).getD i (zK k1) = ys1.getD i (zK k1) := by simp [List.getD, show i < q by omega]
            rw [this] at he
            exact hr i j e (by omega) he
          obtain ⟨news, l1, l2, l3, l4⟩ := slice_cells hr
          refine ⟨news, l1, ?_, l4⟩
          cases a' with
          | none =>
            rw [l3 rfl]
            exact run_firstCells_none w inf.size q _ c'
          | some ad => exact run_firstCells_some (P := P) w inf.size q ad _ c' news (by rw [l1, List.length_take, hsz]; congr 1; omega) (l2 _ rfl)
        have none_ : ∀ a n c, min ys1.length n = 0 → (Builtin.copy_ #[t, t] ty #[.slice a n c, .slice a' ys1.length c']).run P w = .ok (.int .i64 ((min ys1.length n : Nat) : Int)) w := by
          intro a n c h0
          obtain ⟨news, l1, l2, _⟩ := part 0 (Nat.zero_le _)
          have hn : news = [] := List.length_eq_zero_iff.1 (by rw [l1]; simp)
          subst hn
          have h0' : Nat.min ys1.length n = 0 := h0
          cases a with
          | none => simp [Builtin.copy_, run_underlying hu, Builtin.lenOf, sizeOf, typeInfo, hi, h0', l2, h0, goInt]
          | some ad => simp [Builtin.copy_, run_underlying hu, Builtin.lenOf, sizeOf, typeInfo, hi, h0', l2, h0, goInt, storeCells]
        have some_ : ∀ {b n off c arr t'} {news : List Value} {q : Nat}, q = min ys1.length n → (Builtin.firstCells inf.size q (.slice a' ys1.length c')).run P w = .ok news.toArray w → w.heap[(m b).blk]? = some (.cells arr t' (0, 0)) → off + news.length ≤ arr.size → (∀ v ∈ news, v.oneCell' = true) →
            (Builtin.copy_ #[t, t] ty #[.slice (some ⟨(m b).blk, off, none⟩) n c, .slice a' ys1.length c']).run P w = .ok (.int .i64 ((min ys1.length n : Nat) : Int)) (w.setRow (m b).blk (splice arr.toList off news).toArray) := by
          intro b n off c arr t' news q hq l2 hh hfit hone
          have hst2 := run_storeCells_at P (m b).blk off t' news 0 arr w hh (by simpa using hfit) hone
          simp only [Nat.add_zero] at hst2
          subst hq
          have l2' : (Builtin.firstCells inf.size (Nat.min ys1.length n) (.slice a' ys1.length c')).run P w = .ok news.toArray w := l2
          simp [Builtin.copy_, run_underlying hu, Builtin.lenOf, sizeOf, typeInfo, hi, l2', hst2, splice, goInt]
        split at h
        · rename_i b
          split at h
          · rename_i k' xs' hb'
            split at h
            · rename_i xs hcast
              obtain ⟨rfl, rfl⟩ := castK_some hcast
              simp only at h hb'
              obtain ⟨rfl, rfl⟩ := h.ok
              obtain ⟨p1, p2, p3, p4, p5, _⟩ := hR.hold b _ hb'
              obtain ⟨a, cp, rfl, g1, g2⟩ := hd.whole
              rw [p2]
              by_cases h0 : min ys1.length xs'.length = 0
              · refine ⟨_, _, m, Imm, none_ a _ cp h0, .val _, ?_⟩
                have : ys1.take xs'.length = [] := List.length_eq_zero_iff.1 (by rw [List.length_take]; omega)
                rw [this, splice_nil, upd_same_at hb']
                exact .refl hR key
              · obtain ⟨rfl, _⟩ := g2 (.inl (by omega))
                obtain ⟨news, l1, l2, l4⟩ := part (min ys1.length xs'.length) (by omega)
                have ht : ys1.take (min ys1.length xs'.length) = ys1.take xs'.length := by rw [Nat.min_comm, ← List.take_eq_take_min]
                rw [ht] at l1 l4
                obtain ⟨arr, ty', hh, p0, hfit2, hone, hst⟩ := splice_row (p := 0) (ys := ys1.take xs'.length) (news := news) hR hb' (by rw [List.length_take]; omega) (by intro e; have := congrArg List.length e; rw [List.length_take, List.length_nil] at this; omega) l1 l4 key
                exact ⟨_, _, m, Imm, by rw [p0]; exact some_ rfl l2 hh (by simpa using hfit2) hone, .val _, by simpa using hst⟩
            · exact h.fail.elim
          · exact h.fail.elim
        · rename_i b i n
          split at h
          · rename_i k' xs' hb'
            split at h
            · rename_i xs hcast
              obtain ⟨rfl, rfl⟩ := castK_some hcast
              simp only at h hb'
              obtain ⟨rfl, rfl⟩ := h.ok
              obtain ⟨p1, p2, p3, p4, p5, _⟩ := hR.hold b _ hb'
              obtain ⟨a, cp, rfl, g1, g2, g4⟩ := hd.cut
              by_cases h0 : min ys1.length n = 0
              · refine ⟨_, _, m, Imm, none_ a _ cp h0, .val _, ?_⟩
                have : ys1.take n = [] := List.length_eq_zero_iff.1 (by rw [List.length_take]; omega)
                rw [this, splice_nil, upd_same_at hb']
                exact .refl hR key
              · obtain ⟨rfl, _, hin⟩ := g2 (.inl (by omega))
                obtain ⟨news, l1, l2, l4⟩ := part (min ys1.length n) (by omega)
                have ht : ys1.take (min ys1.length n) = ys1.take n := by rw [Nat.min_comm, ← List.take_eq_take_min]
                rw [ht] at l1 l4
                obtain ⟨arr, ty', hh, p0, hfit2, hone, hst⟩ := splice_row (p := i) (ys := ys1.take n) (news := news) hR hb' (by rw [List.length_take]; omega) (by intro e; have := congrArg List.length e; rw [List.length_take, List.length_nil] at this; omega) l1 l4 key
                exact ⟨_, _, m, Imm, by rw [p0, p1, Nat.zero_add]; exact some_ rfl l2 hh hfit2 hone, .val _, hst⟩
            · exact h.fail.elim
          · exact h.fail.elim
        · exact h.fail.elim
end Go.Proofs.Ythbmllekbbfobaa.Sx

/-! One operation: what follows from the evaluator's answer. -/
namespace Go.Proofs.Ythbmllekbbfobaa.Sx
open Go
set_option linter.unusedVariables false
set_option linter.unusedSimpArgs false

variable {P : Program} {T : TT} {m : Nat → Place} {Imm : Nat → Prop} {H : VH} {w : World} {key : Nat} {s : SV} {u : List (Nat × Option VB)}

/-- An element's value, as a loop over an iterator gets it. -/
def plainVs : List CS → List Value
  | [] => []
  | .v x :: l => x :: plainVs l
  | .s _ _ :: l => undef :: plainVs l
def eltV (ag : Bool) (k : RK) (x : El k) : Value := bif ag then .agg (plainVs (enc k x)).toArray else (plainVs (enc k x)).headD undef
theorem plainVs_V (m : Nat → Place) : ∀ l : List CS, Vs m (plainSV l) (plainVs l)
  | [] => .nil
  | .v x :: l => .cons _ _ _ _ (.val x) (plainVs_V m l)
  | .s _ _ :: l => .cons _ _ _ _ (.undef _) (plainVs_V m l)
theorem eltV_V (m : Nat → Place) (ag : Bool) (k : RK) (x : El k) : V m (eltS ag k x) (eltV ag k x) := by
  have h := plainVs_V m (enc k x)
  unfold eltS eltV
  cases ag with
  | true => exact .agg _ _ (by simpa using h)
  | false =>
    simp only [cond_false]
    split
    · rename_i v hv
      rw [hv] at h
      generalize plainVs (enc k x) = l at h ⊢
      cases h with
      | cons _ y _ r h1 h2 => exact h1
    · exact .undef _
theorem plainSV_ids : ∀ l : List CS, idsL (plainSV l) = []
  | [] => rfl
  | .v x :: l => by simp [plainSV, idsL, SV.ids, plainSV_ids l]
  | .s _ _ :: l => by simp [plainSV, idsL, SV.ids, plainSV_ids l]
theorem eltS_ids (ag : Bool) (k : RK) (x : El k) : (eltS ag k x).ids = [] := by
  have h := plainSV_ids (enc k x)
  unfold eltS
  cases ag with
  | true => simpa [SV.ids] using h
  | false =>
    simp only [cond_false]
    split
    · rename_i v hv; rw [hv] at h; simpa [idsL] using h
    · rfl
/-- An iterator: it yields vs, one behind the other, while the blocks Ks stay; it is left when a round says so. -/
def SeqAt (P : Program) (f : FuncId) (lb : Array Value) (vs : List Value) (Ks : Nat → Prop) (w : World) : Prop :=
  ∀ (l : Nat) (J : Nat → World → Prop) (Jx : World → Prop) (W : World), (∀ i W, J i W → ∀ r, Ks r → W.heap[r]? = w.heap[r]?) → (∀ i W W', J i W → Turns (fun _ => False) W W' → J i W') →
    (∀ i v W1, vs[i]? = some v → J i W1 → YieldAt Fence.wide 0 P l #[v] W1 fun e W' => (e = .returned (.bool true) ∧ J (i + 1) W') ∨ (e = .returned (.bool false) ∧ Jx W')) →
    J 0 W → CallsIn Fence.wide 0 P f (#[.func (.yield l) #[] #[]] ++ lb) W fun e W' => (∃ v, e = .returned v) ∧ (J vs.length W' ∨ Jx W')
/-- A contract that the function keeps. -/
structure GOk (P : Program) (f : FuncId) (gc : GC) : Prop where
  fn : ∃ fn, P.funcs[f]? = some fn ∧ (fn.name == "runtime.NumGoroutine") = false ∧ fn.body.isNone = false
  calls : ∀ (args : List SV) (H : VH) (key : Nat) (s : SV) (u : List (Nat × Option VB)), Holds (gc args H key) s u → ∀ (m : Nat → Place) (Imm : Nat → Prop) (w : World) (vals : Array Value), Rel m Imm H w → Clean key H →
    (∀ b ∈ idsL args, inRange key b = false) → Vs m args vals.toList →
    Calls P f vals w fun e w' => ∃ m' Imm' v, e = .returned v ∧ V m' s v ∧ Step m Imm H w m' Imm' (upd u H) w' key
  iter : ∀ (cap : List SV) (H : VH) (key : Nat) (ag : Bool) (y : SV) (u : List (Nat × Option VB)), gc (mark :: cap) H key = .ok (.tup [.val (.bool ag), y]) u → ∀ (k : RK) (ys : List (El k)), sliceOf H y = some ⟨k, ys⟩ → flatK k = true → ys.length ≤ 4194304 →
    (∀ p ∈ u, p.2 = none) ∧ ∀ (m : Nat → Place) (Imm : Nat → Prop) (w : World) (lb : Array Value), Rel m Imm H w → Vs m cap lb.toList →
      ∃ Ks : Nat → Prop, (∀ r, Ks r → r < w.heap.size ∧ ¬ Zone m (upd u H) w r) ∧ SeqAt P f lb (ys.map (eltV ag k)) Ks w
def GOks (P : Program) (Γ : List (Nat × GC)) : Prop := ∀ f gc, lkN Γ f = some gc → GOk P f gc

/-- The slots. -/
def Slots (m : Nat → Place) (g : Nat → SV) (a : Act) : Prop := ∀ d, V m (g d) (a.tmps.getD d undef)
def Away (key : Nat) (g : Nat → SV) : Prop := ∀ d, ∀ b ∈ (g d).ids, inRange key b = false

theorem ofVal_V (m : Nat → Place) (v : Value) : V m (ofVal v) v := by
  cases v <;> first | exact .val _ | (simp only [ofVal]; first | exact .agg _ _ (vals m _) | exact .tup _ _ (vals m _))
theorem ofVal_ids (v : Value) : (ofVal v).ids = [] := by
  cases v <;> first | rfl | (simp [ofVal, SV.ids, idsL_vals])
theorem arg_V {g : Nat → SV} {a : Act} (h : Slots m g a) (x : Operand) : V m (arg g x) (a.eval x) := by
  cases x with
  | tmp t => exact h t
  | const v => exact ofVal_V m v
  | global i => exact .undef _
  | func f => exact .fn _ _ _ _ _ .nil .nil
theorem arg_old {g : Nat → SV} (h : Away key g) (x : Operand) : Old key (arg g x) := by
  cases x with
  | tmp t => exact h t
  | const v => intro b hb; rw [show (arg g (.const v)).ids = [] from ofVal_ids v] at hb; simp at hb
  | global i => intro b hb; simp [arg, SV.ids] at hb
  | func f => intro b hb; simp [arg, SV.ids, idsL] at hb
theorem idsL_append : ∀ l r : List SV, idsL (l ++ r) = idsL l ++ idsL r
  | [], r => by simp [idsL]
  | x :: l, r => by simp [idsL, idsL_append l r]
theorem args_V {g : Nat → SV} {a : Act} (h : Slots m g a) : ∀ l : List Operand, Vs m (l.map (arg g)) (l.map a.eval)
  | [] => .nil
  | x :: l => .cons _ _ _ _ (arg_V h x) (args_V h l)
theorem args_old {g : Nat → SV} (h : Away key g) : ∀ l : List Operand, ∀ b ∈ idsL (l.map (arg g)), inRange key b = false
  | [], b, hb => by simp [idsL] at hb
  | x :: l, b, hb => by
    simp only [List.map_cons, idsL, List.mem_append] at hb
    rcases hb with hb | hb
    · exact arg_old h x b hb
    · exact args_old h l b hb

/-- An operation that comes to a value. -/
theorem wp_does {o : Oper} {a : Act} {next : Act → World → Prop} {Q : Exit → Act → World → Prop} {sem : Sem Value} (he : execOp a.eval o = (do pure (.value (← sem)))) (hd : Does P sem m Imm H w key s u)
    (hn : ∀ v m' Imm' w', V m' s v → Step m Imm H w m' Imm' (upd u H) w' key → next (a.put o.dst v) w') : o.wp P a w next Q := by
  obtain ⟨v, w', m', Imm', h1, h2, h3⟩ := hd
  unfold Oper.wp
  rw [he]
  simp only [Sem.run_bind, h1, Result.andThen_ok, Sem.run_pure]
  exact hn v m' Imm' w' h2 h3
theorem wp_doesU {o : Oper} {a : Act} {next : Act → World → Prop} {Q : Exit → Act → World → Prop} {sem : Sem Unit} (he : execOp a.eval o = (do sem; pure .skip)) (hd : DoesU P sem m Imm H w key u)
    (hn : ∀ v m' Imm' w', V m' .undef v → Step m Imm H w m' Imm' (upd u H) w' key → next (a.put o.dst v) w') : o.wp P a w next Q := by
  obtain ⟨w', m', Imm', h1, h2⟩ := hd
  unfold Oper.wp
  rw [he]
  simp only [Sem.run_bind, h1, Result.andThen_ok, Sem.run_pure]
  exact hn undef m' Imm' w' (.undef _) h2

theorem pairs_V {g : Nat → SV} {a : Act} (h : Slots m g a) (ps : Array (Nat × Operand)) : (ps.toList.map fun p => (p.1, arg g p.2)).length = (ps.map fun (i, x) => (i, a.eval x)).size ∧
    ∀ (i : Nat) (p : Nat × SV) (q : Nat × Value), (ps.toList.map fun p => (p.1, arg g p.2))[i]? = some p → (ps.map fun (i, x) => (i, a.eval x))[i]? = some q → p.1 = q.1 ∧ V m p.2 q.2 := by
  refine ⟨by simp, fun i p q h1 h2 => ?_⟩
  rw [List.getElem?_map] at h1
  rw [Array.getElem?_map] at h2
  cases hq : ps[i]? with
  | none => rw [hq] at h2; cases h2
  | some r =>
    rw [hq] at h2
    rw [show ps.toList[i]? = some r by simpa using hq] at h1
    obtain rfl := Option.some.inj h1
    obtain rfl := Option.some.inj h2
    exact ⟨rfl, arg_V h r.2⟩
theorem opt_V {g : Nat → SV} {a : Act} (h : Slots m g a) (x : Option Operand) : OptV m (x.map (arg g)) (x.map a.eval) := by
  cases x with
  | none => exact ⟨fun y hy => (nomatch hy), fun _ => rfl⟩
  | some x => exact ⟨fun y hy => ⟨_, rfl, by obtain rfl := Option.some.inj hy; exact arg_V h x⟩, fun h => (nomatch h)⟩

theorem does_move {t : TypeId} {x : SV} {v : Value} (hR : Rel m Imm H w) (hc : Clean key H) (hx : V m x v) (h : Holds (evMove T t key x) s u) : Does P (pure v) m Imm H w key s u := by
  have done : ∀ {y : SV}, V m y v → Holds (.ok y []) s u → Does P (pure v) m Imm H w key s u := by
    intro y hy h
    obtain ⟨rfl, rfl⟩ := h.ok
    exact .same hR (by simp) hy
  cases x with
  | val y =>
    cases y with
    | slice a l c =>
      match a, l, c, hx, h with
      | none, 0, 0, hx, h =>
        cases hx
        simp only [evMove] at h
        split at h
        · rename_i k hk
          obtain ⟨rfl, rfl⟩ := h.ok
          exact ⟨_, w, _, Imm, by simp, .slF0 key none (by rw [setM_at]), Step.noRow (key := key) hR (hc key (inRange_self key)) (inRange_self key) true k 0 0⟩
        · exact done (.val _) h
      | none, 0, c + 1, hx, h => exact done hx h
      | none, l + 1, c, hx, h => exact done hx h
      | some a, l, c, hx, h => exact done hx h
    | _ => exact done hx h
  | _ => exact done hx h

theorem list1 {α : Type} {a : Array α} {x : α} (h : a.toList = [x]) : a = #[x] := by cases a; simp at h; subst h; rfl
theorem list2 {α : Type} {a : Array α} {x y : α} (h : a.toList = [x, y]) : a = #[x, y] := by cases a; simp at h; subst h; rfl
theorem Vs.nil' {m : Nat → Place} {l : List Value} (h : Vs m [] l) : l = [] := by cases h; rfl

theorem call_wp (hT : TOk P T) {Γ : List (Nat × GC)} (hΓ : GOks P Γ) {o : Oper} {c : Go.Call} {g : Nat → SV} {a : Act} {next : Act → World → Prop} {Q : Exit → Act → World → Prop} (hR : Rel m Imm H w) (hc : Clean key H) (hs : Slots m g a) (ha : Away key g)
    (ho : o.op = .call c) (h : Holds (evCall T Γ g c H key) s u) (hn : ∀ v m' Imm' w', V m' s v → Step m Imm H w m' Imm' (upd u H) w' key → next (a.put o.dst v) w') : o.wp P a w next Q := by
  unfold evCall at h
  have hargs : Vs m (c.args.toList.map (arg g)) (c.args.map a.eval).toList := by rw [Array.toList_map]; exact args_V hs _
  have hold := args_old ha c.args.toList
  dsimp only at h
  split at h
  · rename_i f hf
    have hfv := arg_V hs f
    have hfo := arg_old ha f
    generalize arg g f = af at h hfv hfo
    generalize hfe : a.eval f = vf at hfv
    split at h
    · rename_i n first cap
      split at h
      · rename_i gc hg
        cases hfv with
        | fn _ _ _ va vc h1 h2 =>
        obtain ⟨⟨fn, h3, h4, h5⟩, hcalls⟩ := hΓ _ _ hg
        have hrun : (execOp a.eval o).run P w = .ok (.enter n (va ++ c.args.map a.eval ++ vc)) w := by
          simp only [execOp, ho, resolve, hf, hfe, Deferred.ofValue]
          have h4' : ¬ fn.name = "runtime.NumGoroutine" := by simpa using h4
          have h5' : ¬ fn.body = none := by intro e; rw [e] at h5; simp at h5
          simp [invoke, callFunc, h3, h4', h5']
        unfold Oper.wp
        rw [hrun, Oper.upon_enter]
        refine (hcalls (first ++ c.args.toList.map (arg g) ++ cap) H key s u h m Imm w _ hR hc ?_ ?_).mono ?_
        · intro b hb
          rw [idsL_append, idsL_append] at hb
          simp only [List.mem_append] at hb
          rcases hb with (hb | hb) | hb
          · exact hfo b (by simp [SV.ids, hb])
          · exact hold b hb
          · exact hfo b (by simp [SV.ids, hb])
        · rw [Array.toList_append, Array.toList_append]; exact (h1.append hargs).append h2
        · rintro e w' ⟨m', Imm', v, rfl, h6, h7⟩
          exact hn v m' Imm' w' h6 h7
      · exact h.fail.elim
    · exact h.fail.elim
  · rename_i hb
    split at h
    · rename_i x t hx ht
      have ht := list1 ht
      rw [hx] at hargs
      cases hargs' : (c.args.map a.eval).toList with
      | nil => rw [hargs'] at hargs; cases hargs
      | cons v l =>
        rw [hargs'] at hargs
        cases hargs with
        | cons _ _ _ _ h1 h2 =>
        rw [h2.nil'] at hargs'
        refine wp_does (sem := Builtin.len_ c.argTypes o.type (c.args.map a.eval)) (by simp only [execOp, ho, resolve, hb]; simp [invoke, builtin]) ?_ hn
        rw [list1 hargs', ht]
        exact does_len hT hR h1 h
    · exact h.fail.elim
  · rename_i hb
    split at h
    · rename_i x y t t' hx ht
      rw [beqN] at h
      cases hd : decide (t = t') with
      | false =>
        rw [hd] at h
        have ht := list2 ht
        rw [hx] at hargs
        cases hargs' : (c.args.map a.eval).toList with
        | nil => rw [hargs'] at hargs; cases hargs
        | cons v l =>
          rw [hargs'] at hargs
          cases hargs with
          | cons _ _ _ _ h1 h2 =>
          cases l with
          | nil => cases h2
          | cons v' l =>
            cases h2 with
            | cons _ _ _ _ h2 h3 =>
            rw [h3.nil'] at hargs'
            refine wp_does (sem := Builtin.append_ c.argTypes o.type (c.args.map a.eval)) (by simp only [execOp, ho, resolve, hb]; simp [invoke, builtin]) ?_ hn
            rw [list2 hargs', ht]
            exact does_appendZ hT hR hc h1 h2 h
      | true =>
        obtain rfl := of_decide_eq_true hd
        rw [hd] at h
        have ht := list2 ht
        rw [hx] at hargs
        cases hargs' : (c.args.map a.eval).toList with
        | nil => rw [hargs'] at hargs; cases hargs
        | cons v l =>
          rw [hargs'] at hargs
          cases hargs with
          | cons _ _ _ _ h1 h2 =>
          cases l with
          | nil => cases h2
          | cons v' l =>
            cases h2 with
            | cons _ _ _ _ h2 h3 =>
            rw [h3.nil'] at hargs'
            refine wp_does (sem := Builtin.append_ c.argTypes o.type (c.args.map a.eval)) (by simp only [execOp, ho, resolve, hb]; simp [invoke, builtin]) ?_ hn
            rw [list2 hargs', ht]
            exact does_append hT hR hc h1 h2 h
    · exact h.fail.elim
  · rename_i hb
    split at h
    · rename_i x t hx ht
      have ht := list1 ht
      rw [hx] at hargs
      cases hargs' : (c.args.map a.eval).toList with
      | nil => rw [hargs'] at hargs; cases hargs
      | cons v l =>
        rw [hargs'] at hargs
        cases hargs with
        | cons _ _ _ _ h1 h2 =>
        rw [h2.nil'] at hargs'
        refine wp_does (sem := Builtin.clear_ c.argTypes o.type (c.args.map a.eval)) (by simp only [execOp, ho, resolve, hb]; simp [invoke, builtin]) ?_ hn
        rw [list1 hargs', ht]
        exact does_clear hT hR h1 h
    · exact h.fail.elim
  · rename_i hb
    split at h
    · rename_i x t hx ht
      have ht := list1 ht
      rw [hx] at hargs
      cases hargs' : (c.args.map a.eval).toList with
      | nil => rw [hargs'] at hargs; cases hargs
      | cons v l =>
        rw [hargs'] at hargs
        cases hargs with
        | cons _ _ _ _ h1 h2 =>
        rw [h2.nil'] at hargs'
        refine wp_does (sem := Builtin.cap_ c.argTypes o.type (c.args.map a.eval)) (by simp only [execOp, ho, resolve, hb]; simp [invoke, builtin]) ?_ hn
        rw [list1 hargs', ht]
        exact does_cap hT hR h1 h
    · exact h.fail.elim
  · rename_i hb
    split at h
    · rename_i x y t t' hx ht
      rw [beqN] at h
      cases hd : decide (t = t') with
      | false => rw [hd] at h; exact h.fail.elim
      | true =>
        obtain rfl := of_decide_eq_true hd
        rw [hd] at h
        have ht := list2 ht
        rw [hx] at hargs
        cases hargs' : (c.args.map a.eval).toList with
        | nil => rw [hargs'] at hargs; cases hargs
        | cons v l =>
          rw [hargs'] at hargs
          cases hargs with
          | cons _ _ _ _ h1 h2 =>
          cases l with
          | nil => cases h2
          | cons v' l =>
            cases h2 with
            | cons _ _ _ _ h2 h3 =>
            rw [h3.nil'] at hargs'
            refine wp_does (sem := Builtin.copy_ c.argTypes o.type (c.args.map a.eval)) (by simp only [execOp, ho, resolve, hb]; simp [invoke, builtin]) ?_ hn
            rw [list2 hargs', ht]
            exact does_copy hT hR h1 h2 h
    · exact h.fail.elim
  · rename_i hb
    refine wp_does (sem := Builtin.min_ c.argTypes o.type (c.args.map a.eval)) (by simp only [execOp, ho, resolve, hb]; simp [invoke, builtin]) ?_ hn
    exact does_minMax (mx := false) (at_ := c.argTypes) (ty := o.type) hR hargs h
  · rename_i hb
    refine wp_does (sem := Builtin.max_ c.argTypes o.type (c.args.map a.eval)) (by simp only [execOp, ho, resolve, hb]; simp [invoke, builtin]) ?_ hn
    exact does_minMax (mx := true) (at_ := c.argTypes) (ty := o.type) hR hargs h
  · exact h.fail.elim

/-- A block of cells, told otherwise. -/
theorem Step.relabel (hR : Rel m Imm H w) {b : Nat} {cs l : List SV} (hb : H b = some (.cells cs)) (hl : ∀ vs, Vs m cs vs → Vs m l vs) (key : Nat) : Step m Imm H w m Imm (upd [(b, some (.cells l))] H) w key := by
  have old : ∀ b' vb', upd [(b, some (.cells l))] H b' = some vb' → ∃ vb0, H b' = some vb0 ∧ (Own (m b') vb' → Own (m b') vb0) ∧ (Hold m Imm w (m b') vb0 → Hold m Imm w (m b') vb') := by
    intro b' vb' h
    rcases upd_cases h with hp | ⟨_, h⟩
    · simp only [List.mem_singleton] at hp
      cases hp
      refine ⟨_, hb, fun _ => trivial, ?_⟩
      rintro ⟨h0, arr, t, h1, h2⟩
      exact ⟨h0, arr, t, h1, hl _ h2⟩
    · exact ⟨_, h, id, id⟩
  refine ⟨⟨?_, ?_, ?_, hR.imm⟩, fun _ _ => rfl, fun _ h => h, fun _ h => .inl h, ?_, fun _ _ _ => rfl, Calm.refl w⟩
  · intro b' vb' h
    obtain ⟨vb0, h1, _, h3⟩ := old b' vb' h
    exact h3 (hR.hold b' vb0 h1)
  · intro b1 b2 v1 v2 h1 h2 o1 o2 hne
    obtain ⟨u1, q1, r1, _⟩ := old b1 v1 h1
    obtain ⟨u2, q2, r2, _⟩ := old b2 v2 h2
    exact hR.dist b1 b2 u1 u2 q1 q2 (r1 o1) (r2 o2) hne
  · intro b' vb' h o
    obtain ⟨u1, q1, r1, _⟩ := old b' vb' h
    exact hR.apart b' u1 q1 (r1 o)
  · intro b' vb' h o
    obtain ⟨u1, q1, r1, _⟩ := old b' vb' h
    exact .inr ⟨b', u1, q1, r1 o, rfl⟩

theorem nilCs_ok : ∀ {ks : List (Option RK)} {cs l : List SV} {u : List (Nat × Option VB)} {n : Nat} {vs : List Value} {m : Nat → Place} {H : VH}, nilCs ks cs n = (l, u) → Rel m Imm H w → Vs m cs vs →
    (∀ i, i < cs.length → inRange key (n + i) = true ∧ ¬ UsedIn H (n + i) ∧ n + i ∉ idsL cs) →
    ∃ m', Vs m' l vs ∧ Step m Imm H w m' Imm (upd u H) w key ∧ (∀ b, b < n ∨ n + cs.length ≤ b → m' b = m b) ∧ (∀ p ∈ u, n ≤ p.1 ∧ p.1 < n + cs.length) ∧ (∀ vs', Vs m cs vs' → Vs m' l vs')
  | [], cs, l, u, n, vs, m, H, h, hR, hv, _ => by
    simp only [nilCs, Prod.mk.injEq] at h
    obtain ⟨rfl, rfl⟩ := h
    exact ⟨m, hv, .refl hR key, fun _ _ => rfl, fun p hp => by simp at hp, fun _ h => h⟩
  | k :: ks, [], l, u, n, vs, m, H, h, hR, hv, _ => by
    have : nilCs (k :: ks) [] n = ([], []) := by cases k <;> rfl
    rw [this] at h
    simp only [Prod.mk.injEq] at h
    obtain ⟨rfl, rfl⟩ := h
    exact ⟨m, hv, .refl hR key, fun _ _ => rfl, fun p hp => by simp at hp, fun _ h => h⟩
  | k :: ks, c :: cs, l, u, n, vs, m, H, h, hR, hv, hfr => by
    have hcase : (∃ l' u', nilCs ks cs (n + 1) = (l', u') ∧ l = c :: l' ∧ u = u') ∨ (∃ k' l' u', k = some k' ∧ c = .val (.slice none 0 0) ∧ nilCs ks cs (n + 1) = (l', u') ∧ l = .slF n :: l' ∧ u = (n, some (.row true k' [])) :: u') := by
      unfold nilCs at h
      split at h
      · rename_i e1 e2
        cases e1; cases e2
        cases h
        exact .inr ⟨_, _, _, rfl, rfl, rfl, rfl, rfl⟩
      · rename_i e1 e2
        cases e1; cases e2
        cases h
        exact .inl ⟨_, _, rfl, rfl, rfl⟩
      · rename_i e1; cases e1
      · rename_i e1 _; cases e1
    cases hv with
    | cons _ x _ r hx hr =>
    have hfr' : ∀ i, i < cs.length → inRange key (n + 1 + i) = true ∧ ¬ UsedIn H (n + 1 + i) ∧ n + 1 + i ∉ idsL cs := fun i hi => by
      obtain ⟨h1, h2, h3⟩ := hfr (i + 1) (by simp; omega)
      rw [show n + (i + 1) = n + 1 + i by omega] at h1 h2 h3
      exact ⟨h1, h2, fun h => h3 (by simp [idsL, h])⟩
    rcases hcase with ⟨l', u', h1, rfl, rfl⟩ | ⟨k', l', u', rfl, rfl, h1, rfl, rfl⟩
    · obtain ⟨m', h2, h3, h4, h5, h6⟩ := nilCs_ok h1 hR hr hfr'
      have hc : ∀ b ∈ c.ids, m' b = m b := by
        intro b hb
        by_cases e : n + 1 ≤ b ∧ b < n + 1 + cs.length
        · obtain ⟨_, _, h⟩ := hfr (b - n) (by simp; omega)
          rw [show n + (b - n) = b by omega] at h
          exact absurd (by simp [idsL, hb]) h
        · exact h4 b (by omega)
      refine ⟨m', .cons _ _ _ _ (hx.moved hc) h2, h3, fun b hb => h4 b (by simp at hb; omega), fun p hp => by have := h5 p hp; simp; omega, fun vs' hv' => ?_⟩
      cases hv' with | cons _ x' _ r' hx' hr' => exact .cons _ _ _ _ (hx'.moved hc) (h6 _ hr')
    · obtain ⟨q1, q2, _⟩ := hfr 0 (by simp)
      rw [Nat.add_zero] at q1 q2
      have hs0 := Step.noRow (key := key) hR q2 q1 true k' 0 0
      have hr0 : ∀ vs', Vs m cs vs' → Vs (setM m n ⟨0, 0, sz k', 0, 0⟩) cs vs' := fun vs' h => h.moved fun b hb => setM_ne _ _ (by
        rintro rfl
        obtain ⟨_, _, h⟩ := hfr 0 (by simp)
        exact h (by simp [idsL, hb]))
      obtain ⟨m', h2, h3, h4, h5, h6⟩ := nilCs_ok h1 hs0.rel (hr0 _ hr) (fun i hi => by
        obtain ⟨h1, h2, h3⟩ := hfr' i hi
        refine ⟨h1, ?_, h3⟩
        rintro (hU | ⟨b', cs', hU, hxx⟩)
        · rw [upd_cons, upd_nil] at hU
          simp only [if_neg (show ¬ n + 1 + i = n by omega)] at hU
          exact h2 (.inl hU)
        · rw [upd_cons, upd_nil] at hU
          by_cases e : b' = n
          · simp [e] at hU
          · simp only [if_neg e] at hU
            exact h2 (.inr ⟨b', cs', hU, hxx⟩))
      have hn : m' n = ⟨0, 0, sz k', 0, 0⟩ := by rw [h4 n (by omega), setM_at]
      refine ⟨m', .cons _ _ _ _ ?_ h2, ?_, ?_, ?_, ?_⟩
      · cases hx; exact .slF0 n _ (by rw [hn])
      · have e : upd ((n, some (.row true k' [])) :: u') H = upd u' (upd [(n, some (.row true k' []))] H) := by
          funext x
          rw [upd_cons]
          by_cases hxn : x = n
          · subst hxn
            simp only [if_true]
            unfold upd
            have : lkN u' x = none := lkN_none.2 fun p hp e => by have := h5 p hp; omega
            rw [this]
            simp [lkN]
          · simp only [hxn, if_false]
            unfold upd
            cases lkN u' x with
            | some v => rfl
            | none =>
              simp only [lkN]
              rw [beqN, decide_eq_false (fun e => hxn e.symm)]
              rfl
        rw [e]
        exact hs0.trans h3
      · intro b hb
        simp at hb
        rw [h4 b (by omega), setM_ne _ _ (by omega)]
      · intro p hp
        simp only [List.mem_cons] at hp
        rcases hp with rfl | hp
        · simp
        · have := h5 p hp; simp; omega
      · intro vs' hv'
        cases hv' with
        | cons _ x' _ r' hx' hr' =>
          refine .cons _ _ _ _ ?_ (h6 _ (hr0 _ hr'))
          cases hx'; exact .slF0 n _ (by rw [hn])

theorem does_nils {sem : Sem Value} {ks : List (Option RK)} {r : R} (hR : Rel m Imm H w) (hc : Clean key H) (hd : ∀ s u, Holds r s u → Does P sem m Imm H w key s u) (hold : ∀ cs, Holds r (.agg cs) [] → ∀ b ∈ idsL cs, inRange key b = false)
    (hnew : ∀ b b' cs, Holds r (.ptr b 0) [(b', some (.cells cs))] → ∀ x ∈ idsL cs, inRange key x = false) (h : Holds (nilR ks key r) s u) : Does P sem m Imm H w key s u := by
  have inK : ∀ {n i : Nat}, n < 62 → i < n → inRange key (key + 1 + i) = true := fun h1 h2 => by rw [inRange_iff]; unfold stride; omega
  unfold nilR at h
  split at h
  · rename_i cs
    cases hlt : Nat.blt (lenN cs) 62 with
    | false => rw [hlt] at h; exact hd _ _ h
    | true =>
      rw [hlt] at h
      rw [Nat.blt_eq, lenN_eq] at hlt
      obtain ⟨l, u', hn⟩ : ∃ l u', nilCs ks cs (key + 1) = (l, u') := ⟨_, _, rfl⟩
      rw [hn] at h
      simp only [cond_true] at h
      obtain ⟨rfl, rfl⟩ := h.ok
      obtain ⟨v, w', m', Imm', h1, h2, h3⟩ := hd _ _ (.mk _ _)
      have hids := hold cs (.mk _ _)
      cases h2 with
      | agg _ vs hvs =>
      obtain ⟨m2, g1, g2, _⟩ := nilCs_ok (key := key) hn h3.rel hvs (fun i hi => ⟨inK hlt hi, by rw [upd_nil]; exact hc _ (inK hlt hi), fun hx => by
        have := hids _ hx; rw [inK hlt hi] at this; cases this⟩)
      exact ⟨_, w', m2, Imm', h1, .agg _ _ g1, h3.trans (by rw [upd_nil] at g2 ⊢; exact g2)⟩
  · rename_i b b' cs
    cases hlt : (Nat.blt (lenN cs) 62 && (Nat.beq b key && Nat.beq b' key)) with
    | false => rw [hlt] at h; exact hd _ _ h
    | true =>
      rw [hlt] at h
      simp only [Bool.and_eq_true, Nat.blt_eq, lenN_eq] at hlt
      obtain ⟨hlt, he1, he2⟩ := hlt
      obtain rfl : b = key := Nat.eq_of_beq_eq_true he1
      obtain rfl : b' = b := Nat.eq_of_beq_eq_true he2
      obtain ⟨l, u', hn⟩ : ∃ l u', nilCs ks cs (b' + 1) = (l, u') := ⟨_, _, rfl⟩
      rw [hn] at h
      simp only [cond_true] at h
      obtain ⟨rfl, rfl⟩ := h.ok
      obtain ⟨v, w', m', Imm', h1, h2, h3⟩ := hd _ _ (.mk _ _)
      have hids := hnew b' b' cs (.mk _ _)
      have hat : upd [(b', some (.cells cs))] H b' = some (.cells cs) := by rw [upd_cons]; simp
      obtain ⟨_, arr, ty, q1, q2⟩ := h3.rel.hold b' _ hat
      obtain ⟨m2, g1, g2, g3, g4, g5⟩ := nilCs_ok (key := b') hn h3.rel q2 (fun i hi => ⟨inK hlt hi, by
        have hin := inK hlt hi
        rintro (hU | ⟨c, cs', hU, hxx⟩)
        · rw [upd_cons, upd_nil] at hU
          simp only [if_neg (show ¬ b' + 1 + i = b' by omega)] at hU
          exact hc _ hin (.inl hU)
        · rw [upd_cons, upd_nil] at hU
          by_cases e : c = b'
          · simp only [e, if_true, Option.some.injEq, VB.cells.injEq] at hU
            subst hU
            have := hids _ hxx; rw [hin] at this; cases this
          · simp only [if_neg e] at hU
            exact hc _ hin (.inr ⟨c, cs', hU, hxx⟩), fun hx => by
        have := hids _ hx; rw [inK hlt hi] at this; cases this⟩)
      have hat2 : upd u' (upd [(b', some (.cells cs))] H) b' = some (.cells cs) := by
        unfold upd
        have : lkN u' b' = none := lkN_none.2 fun p hp e => by have := g4 p hp; omega
        rw [this]
        exact hat
      have hs := (h3.trans g2).trans (Step.relabel g2.rel hat2 (fun vs hvs => by
        have hvs' : Vs m' cs vs := hvs.moved fun x hx => (g3 x (by
          have := hids x hx
          cases e : inRange b' x with
          | true => rw [e] at this; cases this
          | false =>
            by_cases h : x < b' + 1
            · exact .inl h
            · right
              have : ¬ (b' ≤ x ∧ x < b' + 64) := by rw [← show stride = 64 from rfl, ← inRange_iff, e]; simp
              omega)).symm
        exact g5 vs hvs') b')
      refine ⟨v, w', m2, Imm', h1, ?_, ?_⟩
      · cases h2
        have e := g3 b' (.inl (by omega))
        rw [← e]
        exact .ptr b' 0
      · have e : upd ((b', some (.cells l)) :: u') H = upd [(b', some (.cells l))] (upd u' (upd [(b', some (.cells cs))] H)) := by
          funext x
          rw [upd_cons, upd_cons, upd_nil]
          by_cases hx : x = b'
          · simp [hx]
          · simp only [if_neg hx]
            unfold upd
            cases lkN u' x with
            | some v => rfl
            | none =>
              simp only [lkN]
              rw [beqN, decide_eq_false (fun e => hx e.symm)]
              rfl
        rw [e]
        exact hs
  · exact hd _ _ h

theorem alloc_ids {t : TypeId} : (∀ cs, Holds (evAlloc T t key) (.agg cs) [] → ∀ b ∈ idsL cs, inRange key b = false) ∧ ∀ b b' cs, Holds (evAlloc T t key) (.ptr b 0) [(b', some (.cells cs))] → ∀ x ∈ idsL cs, inRange key x = false := by
  refine ⟨fun cs h => ?_, fun b b' cs h => ?_⟩
  all_goals
    unfold evAlloc at h
    split at h
    · split at h
      · split at h
        · obtain ⟨h1, h2⟩ := h.ok; cases h1; try cases h2
        · exact h.fail.elim
      · exact h.fail.elim
    · obtain ⟨h1, h2⟩ := h.ok
      cases h1
      all_goals
        cases h2
        intro x hx
        rw [idsL_vals] at hx
        simp at hx
    · exact h.fail.elim
theorem build_ids {t : TypeId} {ps : List (Nat × SV)} (hp : ∀ p ∈ ps, ∀ b ∈ p.2.ids, inRange key b = false) : ∀ cs, Holds (evBuild T t ps) (.agg cs) [] → ∀ b ∈ idsL cs, inRange key b = false := by
  intro cs h b hb
  have main : ∀ {place : Nat → Option (Nat × Nat)} {z : List Value}, partsIn T place ps (z.map .val) = some cs → inRange key b = false := by
    intro place z hz
    rcases partsIn_ids hz hb with h | ⟨p, hp', h⟩
    · rw [idsL_vals] at h; simp at h
    · exact hp p hp' b h
  unfold evBuild at h
  split at h
  · split at h
    · rename_i hc; obtain ⟨h1, _⟩ := h.ok; cases h1; exact main hc
    · exact h.fail.elim
  · split at h
    · split at h
      · rename_i hc; obtain ⟨h1, _⟩ := h.ok; cases h1; exact main hc
      · exact h.fail.elim
    · exact h.fail.elim
  · exact h.fail.elim
theorem build_no_ptr {t : TypeId} {ps : List (Nat × SV)} {b : Nat} {u' : List (Nat × Option VB)} (h : Holds (evBuild T t ps) (.ptr b 0) u') : False := by
  unfold evBuild at h
  split at h
  · split at h
    · obtain ⟨h1, _⟩ := h.ok; cases h1
    · exact h.fail
  · split at h
    · split at h
      · obtain ⟨h1, _⟩ := h.ok; cases h1
      · exact h.fail
    · exact h.fail
  · exact h.fail
/-- What the evaluator says of one operation, it does. -/
theorem op_wp (hT : TOk P T) {Γ : List (Nat × GC)} (hΓ : GOks P Γ) {o : Oper} {g : Nat → SV} {a : Act} {next : Act → World → Prop} {Q : Exit → Act → World → Prop} (hR : Rel m Imm H w) (hc : Clean key H) (hs : Slots m g a) (ha : Away key g)
    (h : Holds (ev T Γ g o H key) s u) (hn : ∀ v m' Imm' w', V m' s v → Step m Imm H w m' Imm' (upd u H) w' key → next (a.put o.dst v) w') : o.wp P a w next Q := by
  unfold ev at h
  split at h
  · rename_i x ho
    have hd : Does P (pure (a.eval x)) m Imm H w key s u := by
      split at h
      · exact does_move hR hc (arg_V hs _) h
      · obtain ⟨rfl, rfl⟩ := h.ok
        exact .same hR (by simp) (arg_V hs _)
    exact wp_does (by simp [execOp, ho]) hd hn
  · rename_i x ho
    have hd : Does P (pure (a.eval x)) m Imm H w key s u := by
      split at h
      · exact does_move hR hc (arg_V hs _) h
      · obtain ⟨rfl, rfl⟩ := h.ok
        exact .same hR (by simp) (arg_V hs _)
    exact wp_does (by simp [execOp, ho]) hd hn
  · rename_i t ho
    exact wp_does (by simp [execOp, ho]) (does_nils hR hc (fun s u h => does_alloc hT hR hc h) (alloc_ids.1) (alloc_ids.2) h) hn
  · rename_i t x ho
    exact wp_does (by simp [execOp, ho]) (does_box hR hc (arg_V hs x) (arg_old ha x) h) hn
  · rename_i t ps ho
    obtain ⟨h1, h2⟩ := pairs_V hs ps
    exact wp_does (by simp [execOp, ho]) (does_nils hR hc (fun s u h => does_build hT hR h1 h2 h) (build_ids (fun p hp => by obtain ⟨q, _, rfl⟩ := List.mem_map.1 hp; exact arg_old ha q.2)) (fun b b' cs h => (build_no_ptr h).elim) h) hn
  · rename_i t n ps ho
    obtain ⟨h1, h2⟩ := pairs_V hs ps
    exact wp_does (by simp [execOp, ho]) (does_buildSlice hT hR hc (fun p hp => by obtain ⟨q, _, rfl⟩ := List.mem_map.1 hp; exact arg_old ha q.2) h1 h2 h) hn
  · rename_i t x ho
    exact wp_does (by simp [execOp, ho]) (does_load hT hR hc (arg_V hs x) h) hn
  · rename_i t x y ho
    obtain ⟨rfl, hd⟩ := does_store hT hR (arg_V hs x) hc (arg_V hs y) (arg_old ha y) h
    exact wp_doesU (by simp [execOp, ho]) hd hn
  · rename_i x ho
    have hx := arg_V hs x
    unfold Oper.wp
    have hval : (execOp a.eval o).run P w = .ok (.value (a.eval x)) w ∧ u = [] ∧ s = arg g x := by
      generalize hax : arg g x = ax at h hx ⊢
      unfold evNil at h
      split at h
      · obtain ⟨rfl, rfl⟩ := h.ok
        generalize hv : a.eval x = v at hx
        cases hx
        exact ⟨by simp [execOp, ho, hv], rfl, rfl⟩
      · obtain ⟨rfl, rfl⟩ := h.ok
        generalize hv : a.eval x = v at hx
        cases hx
        exact ⟨by simp [execOp, ho, hv], rfl, rfl⟩
      · obtain ⟨rfl, rfl⟩ := h.ok
        generalize hv : a.eval x = v at hx
        cases hx
        exact ⟨by simp [execOp, ho, hv], rfl, rfl⟩
      · exact h.fail.elim
    obtain ⟨h1, rfl, rfl⟩ := hval
    rw [h1]
    exact hn _ m Imm w hx (.refl hR key)
  · rename_i op t x y ty ho
    exact wp_does (by simp [execOp, ho]) (does_bin (ox := x) (oy := y) hT hR (arg_V hs x) (arg_V hs y) h) hn
  · rename_i op t x ho
    exact wp_does (by simp [execOp, ho]) (does_un hR (arg_V hs x) h) hn
  · rename_i t t' x ho
    exact wp_does (by simp [execOp, ho]) (does_conv hT hR (arg_V hs x) h) hn
  · rename_i f x y ho
    obtain ⟨rfl, rfl⟩ := h.ok
    exact wp_does (sem := Instr.makeFunc f (x.map a.eval) (y.map a.eval)) (by simp only [execOp, ho]) (Does.same (v := .func f (x.map a.eval) (y.map a.eval)) hR (by simp [Instr.makeFunc]) (.fn _ _ _ _ _ (by rw [Array.toList_map]; exact args_V hs _) (by rw [Array.toList_map]; exact args_V hs _))) hn
  · rename_i t x y ho
    exact wp_does (by simp [execOp, ho]) (does_makeSlice hT hR hc (arg_V hs x) (arg_V hs y) h) hn
  · rename_i t x lo hi mx ho
    exact wp_does (by simp [execOp, ho]) (does_slice hT hR (arg_V hs x) (opt_V hs lo) (opt_V hs hi) (opt_V hs mx) h) hn
  · rename_i t x f ho
    exact wp_does (by simp [execOp, ho]) (does_fieldAddr hT hR (arg_V hs x) h) hn
  · rename_i t x f ho
    exact wp_does (by simp [execOp, ho]) (does_field hT hR (arg_V hs x) h) hn
  · rename_i t x y ho
    exact wp_does (by simp [execOp, ho]) (does_indexAddr hT hR (arg_V hs x) (arg_V hs y) h) hn
  · rename_i t x y ho
    exact wp_does (by simp [execOp, ho]) (does_index hT hR (arg_V hs x) (arg_V hs y) h) hn
  · rename_i x i ho
    refine wp_does (sem := Instr.extract (a.eval x) i) (by simp [execOp, ho]) ?_ hn
    have hx := arg_V hs x
    generalize arg g x = ax at h hx
    generalize a.eval x = v at hx
    unfold evExtract at h
    split at h
    · cases hx with
      | tup cs vs hvs =>
      split at h
      · rename_i c hci
        obtain ⟨rfl, rfl⟩ := h.ok
        obtain ⟨y, h1, h2⟩ := hvs.get hci
        have h1' : vs[i]? = some y := by simpa using h1
        exact .same hR (by simp [Instr.extract, h1']) h2
      · exact h.fail.elim
    · exact h.fail.elim
  · rename_i c ho
    exact call_wp hT hΓ hR hc hs ha ho h hn
  · exact h.fail.elim
end Go.Proofs.Ythbmllekbbfobaa.Sx

