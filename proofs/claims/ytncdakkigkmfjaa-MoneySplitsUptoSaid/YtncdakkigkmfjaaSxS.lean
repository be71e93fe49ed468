import Derived.Test.YtncdakkigkmfjaaSxR
import Derived.Laws.Slices
/-! Places: fields, elements, cuts, lengths. -/
namespace Go.Proofs.Ytncdakkigkmfjaa.Sx
open Go
set_option linter.unusedVariables false
set_option linter.unusedSimpArgs false

variable {P : Program} {T : TT} {m : Nat → Place} {Imm : Nat → Prop} {H : VH} {w : World} {key : Nat} {s : SV} {u : List (Nat × Option VB)}

theorem run_fieldAt {t : TypeId} {fields : Array Field} {f : Field} {i : Nat} (hu : P.underlying t = some (.struct fields)) (hf : fields[i]? = some f) (hall : ∃ ti, P.info? f.type = some ti ∧ ti.size ≠ 0) (b o : Nat) :
    (Instr.fieldAt t (.pointer (some ⟨b, o, none⟩)) i).run P w = .ok (.pointer (some ⟨b, o + f.offset, none⟩)) w := by
  obtain ⟨ti, h1, h2⟩ := hall
  simp [Instr.fieldAt, run_underlying hu, hf, Instr.sureAddr, fieldPlace, run_sizeOf' h1, h2, Addr.add_mid]

theorem field_at {fields : Array Field} {fs : List (Nat × TypeId)} {i o : Nat} {t : TypeId} (hf : fields.toList.map (fun f => (f.offset, f.type)) = fs) (h : fs[i]? = some (o, t)) : ∃ f, fields[i]? = some f ∧ f.offset = o ∧ f.type = t ∧ f ∈ fields.toList := by
  subst hf
  rw [List.getElem?_map] at h
  cases hq : fields.toList[i]? with
  | none => rw [hq] at h; cases h
  | some f =>
    rw [hq] at h
    simp at h
    exact ⟨f, by simpa using hq, h.1, h.2, List.mem_of_getElem? hq⟩

theorem does_fieldAddr (hT : TOk P T) {t : TypeId} {x : SV} {vx : Value} {i : Nat} (hR : Rel m Imm H w) (hx : V m x vx) (h : Holds (evFieldAddr T t x i) s u) : Does P (Instr.fieldAt t vx i) m Imm H w key s u := by
  unfold evFieldAddr at h
  split at h
  · rename_i fs _ _ _ _ hti
    obtain ⟨⟨fields, hu, hf, hall⟩, _⟩ := (hT t _ hti).desc
    split at h
    · rename_i o ft b j hi
      obtain ⟨rfl, rfl⟩ := h.ok
      obtain ⟨f, h1, rfl, rfl, h2⟩ := field_at hf hi
      cases hx
      refine .same hR (run_fieldAt hu h1 (hall f h2).2 _ _) ?_
      have := V.ptr (m := m) b (j + f.offset)
      rwa [← Nat.add_assoc] at this
    · rename_i o ft b k j hi
      obtain ⟨rfl, rfl⟩ := h.ok
      obtain ⟨f, h1, rfl, rfl, h2⟩ := field_at hf hi
      cases hx with
      | elt _ _ _ h0 =>
        refine .same hR (run_fieldAt hu h1 (hall f h2).2 _ _) ?_
        have := V.elt (m := m) b k (j + f.offset) h0
        rwa [← Nat.add_assoc, ← Nat.add_assoc, Nat.add_assoc (m b).off] at this
    · exact h.fail.elim
  · exact h.fail.elim

theorem extract_toList (a : Array Value) (o n : Nat) : (a.extract o (o + n)).toList = (a.toList.drop o).take n := by
  rw [Array.toList_extract]
  simp [List.extract_eq_take_drop]
theorem does_field (hT : TOk P T) {t : TypeId} {x : SV} {vx : Value} {i : Nat} (hR : Rel m Imm H w) (hx : V m x vx) (h : Holds (evField T t x i) s u) : Does P (Instr.field t vx i) m Imm H w key s u := by
  unfold evField at h
  split at h
  · rename_i fs _ _ _ _ cs hti
    obtain ⟨⟨fields, hu, hf, hall⟩, _⟩ := (hT t _ hti).desc
    cases hx with
    | agg _ vs hvs =>
    split at h
    · rename_i o ft hi
      obtain ⟨f, h1, rfl, rfl, h2⟩ := field_at hf hi
      split at h
      · rename_i ti hft
        simp only at h
        have hA := hT _ ti hft
        cases hq : Nat.beq (lenN ((cs.drop f.offset).take ti.size)) ti.size with
        | false => rw [hq] at h; exact h.fail.elim
        | true =>
          rw [hq] at h
          have hl := Nat.eq_of_beq_eq_true hq
          rw [lenN_eq] at hl
          obtain ⟨rfl, h3⟩ := one_ok h
          have hs := (hvs.drop f.offset).take ti.size
          obtain ⟨_, _, hg⟩ := hA.desc.agg
          obtain ⟨inf, z, i1, i2, _⟩ := hA.info
          rcases h3 with ⟨ha, rfl⟩ | ⟨ha, h3⟩
          · refine .same hR (v := .agg (vs.extract f.offset (f.offset + ti.size))) ?_ (.agg _ _ ?_)
            · simp [Instr.field, run_underlying hu, h1, asAgg, Go.part, hg w, ha, run_sizeOf' i1, i2]
            · rw [extract_toList]; exact hs
          · rw [h3] at hs
            obtain ⟨v, g1, g2⟩ := hs.get (i := 0) rfl
            rw [List.getElem?_take] at g1
            split at g1
            · rw [List.getElem?_drop, Nat.add_zero] at g1
              have g1' : vs[f.offset]? = some v := by simpa using g1
              exact .same hR (by simp [Instr.field, run_underlying hu, h1, asAgg, Go.part, hg w, ha, g1']) g2
            · cases g1
      · exact h.fail.elim
    · exact h.fail.elim
  · exact h.fail.elim

theorem kindIs_ok (hT : TOk P T) {e : TypeId} {k : RK} (h : kindIs T e k = true) : ∃ ti i, lkN T e = some ti ∧ ti.rk = some k ∧ P.info? e = some i ∧ i.size = sz k := by
  unfold kindIs kindE at h
  cases hq : lkN T e with
  | none => rw [hq] at h; cases h
  | some ti =>
    rw [hq] at h
    simp only at h
    cases hr : ti.rk with
    | none => rw [hr] at h; cases h
    | some k' =>
      rw [hr] at h
      simp only [decide_eq_true_eq] at h
      subst h
      have hA := hT e ti hq
      obtain ⟨i, z, h1, h2, _⟩ := hA.info
      exact ⟨ti, i, rfl, hr, h1, by rw [h2]; exact (hA.kind k' hr).1⟩
theorem run_indexAt_slice {t e : TypeId} {inf : TypeInfo} {k : IntKind} {i : Int} {b o n c : Nat} (hu : P.underlying t = some (.slice e)) (hi : P.info? e = some inf) (h0 : 0 ≤ i) (h1 : i < n) :
    (Instr.indexAt t (.slice (some ⟨b, o, none⟩) n c) (.int k i)).run P w = .ok (.pointer (some ⟨b, o + i.toNat * inf.size, none⟩)) w := by
  simp [Instr.indexAt, asIntOf, run_underlying hu, h0, h1, run_sizeOf' hi, Addr.add_mid]
theorem run_indexAt_array {t e : TypeId} {inf : TypeInfo} {k : IntKind} {i : Int} {b o n : Nat} (hu : P.underlying t = some (.array n e)) (hi : P.info? e = some inf) (h0 : 0 ≤ i) (h1 : i < n) :
    (Instr.indexAt t (.pointer (some ⟨b, o, none⟩)) (.int k i)).run P w = .ok (.pointer (some ⟨b, o + i.toNat * inf.size, none⟩)) w := by
  simp [Instr.indexAt, asIntOf, run_underlying hu, Instr.sureAddr, h0, h1, run_sizeOf' hi, Addr.add_mid]
theorem does_indexAddr (hT : TOk P T) {t : TypeId} {x ix : SV} {vx vi : Value} (hR : Rel m Imm H w) (hx : V m x vx) (hi : V m ix vi) (h : Holds (evIndexAddr T t x ix H) s u) : Does P (Instr.indexAt t vx vi) m Imm H w key s u := by
  unfold evIndexAddr at h
  split at h
  · rename_i n e _ _ _ _ b k i hti
    have hu : P.underlying t = some (.array n e) := (hT t _ hti).desc
    cases hx; cases hi
    split at h
    · rename_i own kk xs hb
      cases hq : kindIs T e kk with
      | false => rw [hq] at h; exact h.fail.elim
      | true =>
        rw [hq] at h
        obtain ⟨⟨h0, h1⟩, rfl, rfl⟩ := h.vc
        obtain ⟨_, inf, _, _, i1, i2⟩ := kindIs_ok hT hq
        have hsz : (m b).sz = sz kk := (hR.hold b _ hb).1
        refine .same hR (run_indexAt_array hu i1 h0 h1) ?_
        have := V.elt (m := m) b i 0 h0
        rw [hsz] at this
        rw [i2]
        simpa using this
    · exact h.fail.elim
  · rename_i e _ _ _ _ b k i hti
    have hu : P.underlying t = some (.slice e) := (hT t _ hti).desc
    cases hi
    split at h
    · rename_i own kk xs hb
      cases hq : kindIs T e kk with
      | false => rw [hq] at h; exact h.fail.elim
      | true =>
        rw [hq] at h
        obtain ⟨⟨h0, h1⟩, rfl, rfl⟩ := h.vc
        obtain ⟨_, inf, _, _, i1, i2⟩ := kindIs_ok hT hq
        obtain ⟨hsz, hlen, _⟩ := hR.hold b _ hb
        cases hx with
        | slF _ c g1 g2 =>
          refine .same hR (run_indexAt_slice hu i1 h0 (by rw [hlen]; exact h1)) ?_
          have := V.elt (m := m) b i 0 h0
          rw [hsz] at this
          rw [i2]
          simpa using this
        | slF0 _ g => omega
    · exact h.fail.elim
  · rename_i e _ _ _ _ b j n k i hti
    have hu : P.underlying t = some (.slice e) := (hT t _ hti).desc
    cases hi
    split at h
    · rename_i own kk xs hb
      cases hq : kindIs T e kk with
      | false => rw [hq] at h; exact h.fail.elim
      | true =>
        rw [hq] at h
        obtain ⟨⟨h0, h1⟩, rfl, rfl⟩ := h.vc
        obtain ⟨_, inf, _, _, i1, i2⟩ := kindIs_ok hT hq
        obtain ⟨hsz, hlen, _⟩ := hR.hold b _ hb
        cases hx with
        | slP _ _ _ c g1 g2 g3 =>
          refine .same hR (run_indexAt_slice hu i1 h0 h1) ?_
          have := V.elt (m := m) b (j + i) 0 (by omega)
          rw [hsz] at this ⊢
          rw [i2]
          have e : (j + i : Int).toNat * sz kk = j * sz kk + i.toNat * sz kk := by rw [← Nat.add_mul]; congr 1; omega
          rw [e] at this
          simpa [Nat.add_assoc] using this
        | slP0 _ _ a => omega
    · exact h.fail.elim
  · exact h.fail.elim

theorem does_index (hT : TOk P T) {t : TypeId} {x ix : SV} {vx vi : Value} (hR : Rel m Imm H w) (hx : V m x vx) (hi : V m ix vi) (h : Holds (evIndex T t x ix) s u) : Does P (Instr.index t vx vi) m Imm H w key s u := by
  unfold evIndex at h
  split at h
  · rename_i str k i hti
    have hu : P.underlying t = some .string := (hT t _ hti).desc
    cases hx; cases hi
    obtain ⟨⟨h0, h1⟩, rfl, rfl⟩ := h.vc
    have hlt : i.toNat < str.size := by omega
    refine .same hR ?_ (.val _)
    have hg : str[i.toNat]? = some str[i.toNat] := by simp [hlt]
    simp [Instr.index, asIntOf, run_underlying hu, h0, bt, hlt]
  · exact h.fail.elim

theorem run_bounds {lo hi : Option SV} {vlo vhi : Option Value} {n c l h : Nat} {pc : Prop} {isS : Bool} (hb : bounds lo hi n = some (pc, l, h)) (hpc : pc) (hnc : n ≤ c)
    (hl : ∀ x, lo = some x → ∃ v, vlo = some v ∧ V m x v) (hl0 : lo = none → vlo = none) (hh : ∀ x, hi = some x → ∃ v, vhi = some v ∧ V m x v) (hh0 : hi = none → vhi = none) :
    (Instr.sliceBounds isS n c vlo vhi none).run P w = .ok (l, h, c) w ∧ l ≤ h ∧ h ≤ n := by
  unfold bounds at hb
  split at hb
  · cases hb
    obtain ⟨v, rfl, hv⟩ := hl _ rfl
    cases hv
    obtain rfl := hh0 rfl
    refine ⟨?_, by omega, Nat.le_refl _⟩
    simp [Instr.sliceBounds, run_sliceBound, hpc.1, hpc.2]
  · cases hb
    obtain ⟨v, rfl, hv⟩ := hh _ rfl
    cases hv
    obtain rfl := hl0 rfl
    refine ⟨?_, by omega, by omega⟩
    have : (_ : Int) ≤ (c : Int) := Int.le_trans hpc.2 (by omega)
    simp [Instr.sliceBounds, run_sliceBound, hpc.1, this]
  · cases hb
    obtain ⟨v, rfl, hv⟩ := hl _ rfl
    cases hv
    obtain ⟨v, rfl, hv⟩ := hh _ rfl
    cases hv
    rename_i kl l kh h
    refine ⟨?_, by omega, by omega⟩
    have h1 : h ≤ (c : Int) := by omega
    have h2 : 0 ≤ h := by omega
    have h3 : l ≤ (h.toNat : Int) := by omega
    have e := run_sliceBound (P := P) w kl l h.toNat .sliceB hpc.1 h3
    simp [Instr.sliceBounds, run_sliceBound w kh h c _ h2 h1, e]
  · cases hb

/-- An optional operand's value. -/
def OptV (m : Nat → Place) (x : Option SV) (v : Option Value) : Prop := (∀ y, x = some y → ∃ v', v = some v' ∧ V m y v') ∧ (x = none → v = none)

theorem V.cut {b i n : Nat} {v : Value} (h : V m (.slP b i n) v) : ∃ a c, v = .slice a n c ∧ n ≤ c ∧ (n ≠ 0 ∨ c ≠ 0 → a = some ⟨(m b).blk, (m b).off + i * (m b).sz, none⟩ ∧ i + c ≤ (m b).cap ∧ i + n ≤ (m b).len) ∧ (n = 0 → c = 0 → ∃ q : Option (Nat × Nat), a = q.map fun p => ⟨p.1, p.2, none⟩) := by
  cases h with
  | slP _ _ _ c h1 h2 h3 => exact ⟨_, c, rfl, h1, fun _ => ⟨rfl, h2, h3⟩, fun _ _ => ⟨some ((m b).blk, (m b).off + i * (m b).sz), rfl⟩⟩
  | slP0 _ _ a => exact ⟨_, 0, rfl, Nat.le_refl _, fun h => by simp at h, fun _ _ => ⟨a, rfl⟩⟩
theorem V.whole {b : Nat} {v : Value} (h : V m (.slF b) v) : ∃ a c, v = .slice a (m b).len c ∧ (m b).len ≤ c ∧ ((m b).len ≠ 0 ∨ c ≠ 0 → a = some ⟨(m b).blk, (m b).off, none⟩ ∧ c ≤ (m b).cap) ∧ ((m b).len = 0 → c = 0 → ∃ q : Option (Nat × Nat), a = q.map fun p => ⟨p.1, p.2, none⟩) := by
  cases h with
  | slF _ c h1 h2 => exact ⟨_, c, rfl, h1, fun _ => ⟨rfl, h2⟩, fun _ _ => ⟨some ((m b).blk, (m b).off), rfl⟩⟩
  | slF0 _ h1 => rw [h1]; exact ⟨none, 0, rfl, Nat.le_refl _, fun h => by simp at h, fun _ _ => ⟨none, rfl⟩⟩

theorem run_cut {t e : TypeId} {inf : TypeInfo} (hu : P.underlying t = some (.slice e)) (hi : P.info? e = some inf) {a : Option Addr} {n c l h : Nat} {vlo vhi : Option Value} (hb : (Instr.sliceBounds true n c vlo vhi none).run P w = .ok (l, h, c) w) :
    (Instr.sliceAt t (.slice a n c) vlo vhi none).run P w = .ok (.slice (if c = l then a else a.map (·.add (l * inf.size))) (h - l) (c - l)) w := by
  simp [Instr.sliceAt, Instr.slice, run_underlying hu, hb, run_sizeOf' hi]
/-- A cut of a cut. -/
theorem cut_value {b i l h c : Nat} {a : Option Addr} {sz' : Nat} (hs : (m b).sz = sz') (hlh : l ≤ h) (hhc : h ≤ c) (hc : c ≠ 0 → a = some ⟨(m b).blk, (m b).off + i * (m b).sz, none⟩ ∧ i + c ≤ (m b).cap) (hh : c ≠ 0 → i + h ≤ (m b).len)
    (ha : c = 0 → ∃ q : Option (Nat × Nat), a = q.map fun p => ⟨p.1, p.2, none⟩) : V m (.slP b (i + l) (h - l)) (.slice (if c = l then a else a.map (·.add (l * sz'))) (h - l) (c - l)) := by
  by_cases hcl : c = l
  · rw [if_pos hcl]
    have e1 : h - l = 0 := by omega
    have e2 : c - l = 0 := by omega
    rw [e1, e2]
    by_cases hc0 : c = 0
    · obtain ⟨q, rfl⟩ := ha hc0; exact .slP0 _ _ q
    · obtain ⟨rfl, _⟩ := hc hc0; exact .slP0 _ _ (some ((m b).blk, (m b).off + i * (m b).sz))
  · rw [if_neg hcl]
    have hc0 : c ≠ 0 := by omega
    obtain ⟨rfl, h2⟩ := hc hc0
    have := V.slP (m := m) b (i + l) (h - l) (c - l) (by omega) (by omega) (by have := hh hc0; omega)
    simp only [Option.map_some, Addr.add_mid]
    rw [← hs, Nat.add_assoc, ← Nat.add_mul]
    exact this

theorem does_slice (hT : TOk P T) {t : TypeId} {x : SV} {vx : Value} {lo hi mx : Option SV} {vlo vhi vmx : Option Value} (hR : Rel m Imm H w) (hx : V m x vx) (hlo : OptV m lo vlo) (hhi : OptV m hi vhi) (hmx : OptV m mx vmx)
    (h : Holds (evSlice T t x lo hi mx H) s u) : Does P (Instr.sliceAt t vx vlo vhi vmx) m Imm H w key s u := by
  unfold evSlice at h
  split at h
  · exact h.fail.elim
  · obtain rfl := hmx.2 rfl
    split at h
    · rename_i hti
      have hu : P.underlying t = some .string := (hT t _ hti).desc
      split at h
      · rename_i str
        split at h
        · rename_i c l h' hb
          obtain ⟨hc, rfl, rfl⟩ := h.vc
          cases hx
          obtain ⟨hr, _, _⟩ := run_bounds (P := P) (w := w) (m := m) (isS := false) hb hc (Nat.le_refl _) hlo.1 hlo.2 hhi.1 hhi.2
          exact .same hR (by simp [Instr.sliceAt, Instr.slice, run_underlying hu, hr]) (.val _)
        · exact h.fail.elim
      · exact h.fail.elim
    · rename_i e _ _ _ _ hti
      have hu : P.underlying t = some (.slice e) := (hT t _ hti).desc
      split at h
      · rename_i b
        split at h
        · rename_i own k xs hb
          obtain ⟨p1, p2, p3, _⟩ := hR.hold b _ hb
          cases hq : kindIs T e k with
          | false => rw [hq] at h; exact h.fail.elim
          | true =>
            rw [hq] at h
            simp only [cond_true] at h
            obtain ⟨_, inf, _, _, i1, i2⟩ := kindIs_ok hT hq
            split at h
            · rename_i c l h' hbd
              obtain ⟨hc, rfl, rfl⟩ := h.vc
              obtain ⟨a, cp, rfl, g1, g2, g3⟩ := hx.whole
              obtain ⟨hr, r1, r2⟩ := run_bounds (P := P) (w := w) (m := m) (c := cp) (isS := true) hbd hc (by omega) hlo.1 hlo.2 hhi.1 hhi.2
              rw [← p2] at hr
              refine .same hR (run_cut hu i1 hr) ?_
              have := cut_value (m := m) (b := b) (i := 0) (l := l) (h := h') (c := cp) (a := a) (sz' := inf.size) (by rw [p1, i2]) r1 (by omega) (fun hc => by obtain ⟨q1, q2⟩ := g2 (.inr hc); exact ⟨by simpa using q1, by omega⟩) (fun _ => by omega) (fun hc => g3 (by omega) hc)
              simpa using this
            · exact h.fail.elim
        · exact h.fail.elim
      · rename_i b i n
        split at h
        · rename_i own k xs hb
          obtain ⟨p1, p2, p3, _⟩ := hR.hold b _ hb
          cases hq : kindIs T e k with
          | false => rw [hq] at h; exact h.fail.elim
          | true =>
            rw [hq] at h
            simp only [cond_true] at h
            obtain ⟨_, inf, _, _, i1, i2⟩ := kindIs_ok hT hq
            split at h
            · rename_i c l h' hbd
              obtain ⟨hc, rfl, rfl⟩ := h.vc
              obtain ⟨a, cp, rfl, g1, g2, g3⟩ := hx.cut
              obtain ⟨hr, r1, r2⟩ := run_bounds (P := P) (w := w) (m := m) (c := cp) (isS := true) hbd hc (by omega) hlo.1 hlo.2 hhi.1 hhi.2
              refine .same hR (run_cut hu i1 hr) ?_
              exact cut_value (m := m) (b := b) (i := i) (l := l) (h := h') (c := cp) (a := a) (sz' := inf.size) (by rw [p1, i2]) r1 (by omega) (fun hc => by obtain ⟨q1, q2, q3⟩ := g2 (.inr hc); exact ⟨q1, q2⟩) (fun hc => by obtain ⟨q1, q2, q3⟩ := g2 (.inr hc); omega) (fun hc => g3 (by omega) hc)
            · exact h.fail.elim
        · exact h.fail.elim
      · exact h.fail.elim
    · exact h.fail.elim

theorem does_len (hT : TOk P T) {t ty : TypeId} {x : SV} {vx : Value} (hR : Rel m Imm H w) (hx : V m x vx) (h : Holds (evLen T t x H) s u) : Does P (Builtin.len_ #[t] ty #[vx]) m Imm H w key s u := by
  unfold evLen at h
  split at h
  · rename_i hti
    have hu : P.underlying t = some .string := (hT t _ hti).desc
    split at h
    · obtain ⟨rfl, rfl⟩ := h.ok
      cases hx
      exact .same hR (by simp [Builtin.len_, run_underlying hu, goInt]) (.val _)
    · exact h.fail.elim
  · rename_i n e _ _ _ _ hti
    have hu : P.underlying t = some (.array n e) := (hT t _ hti).desc
    obtain ⟨rfl, rfl⟩ := h.ok
    exact .same hR (by simp [Builtin.len_, run_underlying hu, goInt]) (.val _)
  · rename_i e _ _ _ _ hti
    have hu : P.underlying t = some (.slice e) := (hT t _ hti).desc
    split at h
    · obtain ⟨rfl, rfl⟩ := h.ok
      cases hx
      exact .same hR (by simp [Builtin.len_, run_underlying hu, goInt]) (.val _)
    · split at h
      · rename_i b _ own k xs hb
        obtain ⟨rfl, rfl⟩ := h.ok
        obtain ⟨p1, p2, p3, _⟩ := hR.hold b _ hb
        obtain ⟨a, cp, rfl, _⟩ := hx.whole
        exact .same hR (by simp [Builtin.len_, run_underlying hu, goInt, p2]) (.val _)
      · exact h.fail.elim
    · obtain ⟨rfl, rfl⟩ := h.ok
      obtain ⟨a, cp, rfl, _⟩ := hx.cut
      exact .same hR (by simp [Builtin.len_, run_underlying hu, goInt]) (.val _)
    · exact h.fail.elim
  · exact h.fail.elim

theorem does_minMax {mx : Bool} {l : List SV} {vs : Array Value} {at_ : Array TypeId} {ty : TypeId} (hR : Rel m Imm H w) (hl : Vs m l vs.toList) (h : Holds (evMinMax mx l) s u) :
    Does P (if mx then Builtin.max_ at_ ty vs else Builtin.min_ at_ ty vs) m Imm H w key s u := by
  unfold evMinMax at h
  split at h
  · rename_i k a k' b
    cases hv : vs with
    | mk lv =>
      rw [hv] at hl
      cases hl with
      | cons _ v1 _ r h1 h2 =>
        cases h2 with
        | cons _ v2 _ r h2 h3 =>
          cases h3
          cases h1; cases h2
          split at h
          · rename_i hk; subst hk
            obtain ⟨rfl, rfl⟩ := h.ok
            cases mx
            · exact .same hR (by simp [Builtin.min_, Builtin.min2]) (.val _)
            · exact .same hR (by simp [Builtin.max_, Builtin.max2]) (.val _)
          · exact h.fail.elim
  · exact h.fail.elim
end Go.Proofs.Ytncdakkigkmfjaa.Sx
