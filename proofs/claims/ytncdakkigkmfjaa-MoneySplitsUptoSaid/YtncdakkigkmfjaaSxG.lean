import Derived.Test.YtncdakkigkmfjaaSxA
/-! append. -/
namespace Go.Proofs.Ytncdakkigkmfjaa.Sx
open Go
set_option linter.unusedVariables false
set_option linter.unusedSimpArgs false

variable {P : Program} {T : TT} {m : Nat → Place} {Imm : Nat → Prop} {H : VH} {w : World} {key : Nat} {s : SV} {u : List (Nat × Option VB)}

/-- The cells of two rows, one behind the other. -/
theorem cells_append {k : RK} {xs ys : List (El k)} {arr : List Value} {news : List Value}
    (h1 : ∀ i j e, i < xs.length → (enc k (xs.getD i (zK k)))[j]? = some e → ∃ v, arr[i * sz k + j]? = some v ∧ CV Imm w e v)
    (h2 : ∀ (j : Nat) (e : CS), (ys.flatMap (enc k))[j]? = some e → ∃ v, news[j]? = some v ∧ CV Imm w e v) {full : List Value}
    (ha : ∀ i, i < xs.length * sz k → full[i]? = arr[i]?) (hb : ∀ i, i < news.length → full[xs.length * sz k + i]? = news[i]?) :
    ∀ i j e, i < (xs ++ ys).length → (enc k ((xs ++ ys).getD i (zK k)))[j]? = some e → ∃ v, full[i * sz k + j]? = some v ∧ CV Imm w e v := by
  intro i j e hi he
  have hj : j < sz k := by have := (List.getElem?_eq_some_iff.1 he).1; rwa [enc_length] at this
  by_cases hx : i < xs.length
  · have e1 : (xs ++ ys).getD i (zK k) = xs.getD i (zK k) := by simp [List.getD, List.getElem?_append_left hx]
    rw [e1] at he
    obtain ⟨v, h3, h4⟩ := h1 i j e hx he
    refine ⟨v, ?_, h4⟩
    rw [ha _ (by have : (i + 1) * sz k ≤ xs.length * sz k := Nat.mul_le_mul_right _ hx
                 rw [Nat.add_mul] at this; omega)]
    exact h3
  · rw [List.length_append] at hi
    have e1 : (xs ++ ys).getD i (zK k) = ys.getD (i - xs.length) (zK k) := by simp [List.getD, List.getElem?_append_right (Nat.le_of_not_lt hx)]
    rw [e1] at he
    have hiy : i - xs.length < ys.length := by omega
    have key : ∀ (l : List (El k)) (q : Nat), q < l.length → (l.flatMap (enc k))[q * sz k + j]? = (enc k (l.getD q (zK k)))[j]? := by
      intro l
      induction l with
      | nil => intro q hq; simp at hq
      | cons x l ih =>
        intro q hq
        rw [List.flatMap_cons]
        cases q with
        | zero => rw [List.getElem?_append_left (by rw [enc_length]; omega)]; simp
        | succ q =>
          rw [List.getElem?_append_right (by rw [enc_length, Nat.add_mul]; omega), enc_length]
          have : (q + 1) * sz k + j - sz k = q * sz k + j := by rw [Nat.add_mul]; omega
          rw [this, ih q (by simpa using hq)]
          simp
    obtain ⟨v, h3, h4⟩ := h2 ((i - xs.length) * sz k + j) e (by rw [key ys _ hiy]; exact he)
    refine ⟨v, ?_, h4⟩
    have hlt := (List.getElem?_eq_some_iff.1 h3).1
    rw [← h3, ← hb _ hlt]
    congr 1
    have : i * sz k = xs.length * sz k + (i - xs.length) * sz k := by rw [← Nat.add_mul]; congr 1; omega
    omega

theorem run_append_none {t ty e : TypeId} {inf : TypeInfo} (hu : P.underlying t = some (.slice e)) (hi : P.info? e = some inf) {a a' : Option Addr} {n c c' : Nat} (hnc : n ≤ c) :
    (Builtin.append_ #[t, t] ty #[.slice a n c, .slice a' 0 c']).run P w = .ok (.slice a n c) w := by
  cases a <;> cases a' <;> simp [Builtin.append_, run_underlying hu, sizeOf, typeInfo, hi, Builtin.lenOf, hnc, Builtin.firstCells, loadCells, loadCellsFrom, storeCells]

/-- A row that has moved into a new block. -/
theorem grown_row (hR : Rel m Imm H w) (hc : Clean key H) {w0 : World} (hw0 : w0.heap = w.heap) (hcalm : Calm w w0) {e : TypeId} {k : RK} {xs ys : List (El k)} {z : Array Value} {olds news : List Value} {C : Nat} (hC : xs.length + ys.length ≤ C)
    (hz : z.size = sz k) (ho : olds.length = xs.length * sz k) (h1 : ∀ i j e, i < xs.length → (enc k (xs.getD i (zK k)))[j]? = some e → ∃ v, olds[i * sz k + j]? = some v ∧ CV Imm w e v)
    (hn : news.length = ys.length * sz k) (h2 : ∀ (j : Nat) (e : CS), (ys.flatMap (enc k))[j]? = some e → ∃ v, news[j]? = some v ∧ CV Imm w e v) :
    Step m Imm H w (setM m key ⟨w.heap.size, 0, sz k, C, (xs ++ ys).length⟩) Imm (upd [(key, some (.row true k (xs ++ ys)))] H)
      (w0.alloc (.cells (olds.toArray ++ news.toArray ++ Builtin.zeroCells z (C - (xs.length + ys.length))) e)) key := by
  have hc0 : Clean key H := hc
  have hR0 : Rel m Imm H w0 := ⟨fun b vb h => (hR.hold b vb h).stays (fun _ h => h) (fun _ _ => by rw [hw0]) (fun _ => by rw [hw0]) (fun _ _ _ _ => rfl), hR.dist, hR.apart, fun r hr => by rw [hw0]; exact hR.imm r hr⟩
  have st0 : Step m Imm H w m Imm H w0 key := ⟨hR0, fun _ _ => rfl, fun _ h => h, fun _ h => .inl h, fun b vb e o => .inr ⟨b, vb, e, o, rfl⟩, fun _ _ _ => by rw [hw0], hcalm⟩
  have hstay : ∀ e v, CV Imm w e v → CV Imm w0 e v := fun e v h => h.stays (fun _ h => h) (fun _ _ => by rw [hw0])
  have hsz : (olds.toArray ++ news.toArray ++ Builtin.zeroCells z (C - (xs.length + ys.length))).size = C * sz k := by
    simp [size_zeroCells, hz, ho, hn]
    rw [← Nat.add_mul, ← Nat.add_mul]
    congr 1
    omega
  have := Step.newRow (key := key) hR0 (hc key (inRange_self key)) (inRange_self key) (olds.toArray ++ news.toArray ++ Builtin.zeroCells z (C - (xs.length + ys.length))) e k (xs ++ ys) C (by simp; omega) hsz (by
    have := cells_append (k := k) (xs := xs) (ys := ys) (arr := olds) (news := news) (Imm := Imm) (w := w) h1 h2 (full := (olds.toArray ++ news.toArray ++ Builtin.zeroCells z (C - (xs.length + ys.length))).toList)
      (fun i hi => by simp only [Array.toList_append, List.append_assoc]; rw [List.getElem?_append_left (by omega)]) (fun i hi => by
        simp only [Array.toList_append, List.append_assoc]
        rw [List.getElem?_append_right (by omega), List.getElem?_append_left (by omega)]
        congr 1
        omega)
    intro i j e hi he
    obtain ⟨v, g1, g2⟩ := this i j e hi he
    exact ⟨v, by rw [← Array.getElem?_toList]; exact g1, hstay _ _ g2⟩)
  rw [show w0.heap.size = w.heap.size by rw [hw0]] at this
  exact st0.trans this
def oneB : CS → Bool
  | .v v => v.oneCell'
  | .s _ _ => true
theorem enc_one (k : RK) (x : El k) : (enc k x).all oneB = true := by cases k <;> rfl
theorem V.slF_inv {b : Nat} {v : Value} (h : V m (.slF b) v) : (∃ c, (m b).len ≤ c ∧ c ≤ (m b).cap ∧ v = .slice (some ⟨(m b).blk, (m b).off, none⟩) (m b).len c) ∨ ((m b).len = 0 ∧ v = .slice none 0 0) := by
  cases h with
  | slF _ c h1 h2 => exact .inl ⟨c, h1, h2, rfl⟩
  | slF0 _ h1 => exact .inr ⟨h1, rfl⟩
theorem V.slF_as {b : Nat} {v : Value} (h : V m (.slF b) v) (k : Nat) : V (setM m k (m b)) (.slF k) v := by
  rcases h.slF_inv with ⟨c, h1, h2, rfl⟩ | ⟨h1, rfl⟩
  · exact slF_new m k (m b) c h1 h2
  · exact .slF0 k (by rw [setM_at]; exact h1)
theorem one_of_enc {k : RK} {ys : List (El k)} {c : CS} {v : Value} (h : CV Imm w c v) (hm : c ∈ ys.flatMap (enc k)) : v.oneCell' = true := by
  obtain ⟨x, _, hx⟩ := List.mem_flatMap.1 hm
  have := (List.all_eq_true.1 (enc_one k x)) c hx
  cases h with
  | v _ => exact this
  | s => rfl
  | s0 => rfl
theorem drew_calm (w : World) : Calm w w.drew := ⟨rfl, rfl, rfl, Nat.le_refl _⟩

theorem does_appFin (hT : TOk P T) {t ty : TypeId} {k : RK} {ys : List (El k)} {sv : SV} {vs : Value} {a' : Option Addr} {c' : Nat} (hR : Rel m Imm H w) (hc : Clean key H) (hs : V m sv vs)
    (hy : ys ≠ [] → ∃ blk off, a' = some ⟨blk, off, none⟩ ∧ Reads Imm w ⟨blk, off, sz k, c', ys.length⟩ k ys) (hk : kindS T t = some k) (h : Holds (appTo T t key H k sv ys) s u) :
    Does P (Builtin.append_ #[t, t] ty #[vs, .slice a' ys.length c']) m Imm H w key s u := by
  obtain ⟨e, inf, z, hu, hi, hz, hsz, hb, hzs, hzo⟩ := kindS_ok hT hk
  have hfree := hc key (inRange_self key)
  have hr := inRange_self key
  obtain ⟨news, l1, l2, l3, l4⟩ := slice_cells hy
  unfold appTo at h
  split at h
  · cases hs
    unfold appFin at h
    cases hq : Nat.beq (bytesS T t) 0 with
    | true => rw [hq] at h; exact h.fail.elim
    | false =>
      rw [hq] at h
      obtain ⟨hbound, rfl, rfl⟩ := h.vc
      have hbp : 1 ≤ bytesS T t := by rw [beqN] at hq; simp at hq; omega
      by_cases hy0 : ys = []
      · subst hy0
        refine ⟨_, _, setM m key ⟨0, 0, sz k, 0, 0⟩, Imm, run_append_none hu hi (Nat.le_refl 0), .slF0 key (by rw [setM_at]), ?_⟩
        have := Step.noRow (key := key) hR hfree hr true k 0 0
        simpa using this
      · have hpos : 0 < ys.length := List.length_pos_iff.2 hy0
        obtain ⟨blk, off, rfl, _⟩ := hy hy0
        simp only [List.length_nil, Nat.zero_add] at hbound
        have hle : ys.length * 1 ≤ ys.length * bytesS T t := Nat.mul_le_mul_left _ hbp
        have hrun := run_append_nil (P := P) w t ty e inf z hu hi hz ⟨blk, off, none⟩ ys.length c' news (by rw [l1, hsz]) (l2 _ rfl) hpos (by omega) (by rw [hb]; omega)
        have hcap : ys.length ≤ grownCap w ys.length 0 e := by unfold grownCap; simp [Question.cut]
        refine ⟨_, _, setM m key ⟨w.heap.size, 0, sz k, grownCap w ys.length 0 e, ys.length⟩, Imm, hrun, ?_, ?_⟩
        · exact slF_new m key ⟨w.heap.size, 0, sz k, grownCap w ys.length 0 e, ys.length⟩ _ hcap (Nat.le_refl _)
        · have := grown_row (e := e) (z := z.cells) (olds := []) (news := news) (xs := ([] : List (El k))) (ys := ys) (C := grownCap w ys.length 0 e) hR hc (w0 := w.drew) rfl (drew_calm w) (by simpa using hcap) hzs (by simp) (fun i j e h => by simp at h) l1 l4
          simpa using this
  · rename_i b
    split at h
    · rename_i k' xs' hb'
      split at h
      · rename_i xs hcast
        obtain ⟨rfl, rfl⟩ := castK_some hcast
        simp only at h hb'
        unfold appFin at h
        cases hq : Nat.beq (bytesS T t) 0 with
        | true => rw [hq] at h; exact h.fail.elim
        | false =>
          rw [hq] at h
          obtain ⟨hbound, rfl, rfl⟩ := h.vc
          have hbp : 1 ≤ bytesS T t := by rw [beqN] at hq; simp at hq; omega
          have hle : (xs'.length + ys.length) * 1 ≤ (xs'.length + ys.length) * bytesS T t := Nat.mul_le_mul_left _ hbp
          have hsum : xs'.length + ys.length ≤ 140737488355328 := by omega
          obtain ⟨p1, p2, p3, p4, p5, _⟩ := hR.hold b _ hb'
          obtain ⟨a, cp, rfl, g1, g2, g3⟩ := hs.whole
          have hne : b ≠ key := by rintro rfl; exact hfree (.inl (by rw [hb']; simp))
          have hfd : ¬ UsedIn (upd [(b, none)] H) key := by
            rintro (hn | ⟨b', cs', hb2, hx⟩)
            · apply hn; rw [upd_cons, upd_nil]; simp only; rw [if_neg (Ne.symm hne)]; exact hc.none hr
            · rcases upd_cases hb2 with hp | ⟨_, hp⟩
              · simp at hp
              · exact hfree (.inr ⟨b', cs', hp, hx⟩)
          have hst := Step.drop hR b key
          have swap : upd [(key, some (VB.row true k' (xs' ++ ys)))] (upd [(b, none)] H) = upd [(key, some (VB.row true k' (xs' ++ ys))), (b, none)] H := by rw [← upd_append]; rfl
          have hlen : (m b).len = xs'.length := p2
          by_cases hy0 : ys = []
          · -- nothing is appended
            subst hy0
            have hrun := run_append_none (P := P) (w := w) (ty := ty) hu hi (a := a) (a' := a') (n := (m b).len) (c := cp) (c' := c') g1
            by_cases hcap0 : 0 < (m b).cap
            · refine ⟨_, _, setM m key (m b), Imm, hrun, ?_, ?_⟩
              · exact hs.slF_as key
              · have := Step.move (key := key) (w' := w) (vb' := .row true k' xs') hR hb' hcap0 hfree hr (m b) rfl (Calm.refl w) (fun _ _ => rfl) ((hR.hold b _ hb').stays (fun _ h => h) (fun _ _ => rfl) (fun _ => rfl) (fun cs h => by cases h))
                simpa using this
            · have hx0 : xs' = [] := List.length_eq_zero_iff.1 (by omega)
              subst hx0
              have hc0 : cp = 0 := by
                rcases Nat.eq_zero_or_pos cp with h | h
                · exact h
                · have := (g2 (.inr (by omega))).2; omega
              obtain ⟨q, rfl⟩ := g3 (by rw [hlen]; rfl) hc0
              subst hc0
              have hl0 : (m b).len = 0 := hlen
              rw [hl0] at hrun
              have key2 : ∀ blk off, Step m Imm H w (setM m key ⟨blk, off, sz k', 0, 0⟩) Imm (upd [(key, some (VB.row true k' [])), (b, none)] H) w key := by
                intro blk off
                have := hst.trans (Step.noRow (key := key) hst.rel hfd hr true k' blk off)
                rwa [← upd_append] at this
              cases q with
              | none => exact ⟨_, _, setM m key ⟨0, 0, sz k', 0, 0⟩, Imm, by rw [hl0]; exact hrun, .slF0 key (by rw [setM_at]), by simpa using key2 0 0⟩
              | some q => exact ⟨_, _, setM m key ⟨q.1, q.2, sz k', 0, 0⟩, Imm, by rw [hl0]; exact hrun, slF_new m key ⟨q.1, q.2, sz k', 0, 0⟩ 0 (Nat.le_refl _) (Nat.le_refl _), by simpa using key2 q.1 q.2⟩
          · have hpos : 0 < ys.length := List.length_pos_iff.2 hy0
            obtain ⟨blk, off, rfl, _⟩ := hy hy0
            have hnl : news.length = ys.length * inf.size := by rw [l1, hsz]
            by_cases hroom : (m b).len + ys.length ≤ cp
            · -- there is room
              obtain ⟨rfl, hcc⟩ := g2 (.inr (by omega))
              have hcap0 : 0 < (m b).cap := by omega
              obtain ⟨p0, arr, ty', hh, hasz⟩ := p5 rfl hcap0
              have hfit : (m b).len * inf.size + news.length ≤ arr.size := by
                rw [hnl, ← Nat.add_mul, hasz, hsz]; exact Nat.mul_le_mul_right _ (by omega)
              have hone : ∀ v ∈ news, v.oneCell' = true := by
                intro v hv
                obtain ⟨j, hj, rfl⟩ := List.getElem_of_mem hv
                have hj2 : j < (ys.flatMap (enc k')).length := by rw [flat_length, ← l1]; exact hj
                obtain ⟨v', g5, g6⟩ := l4 j _ (List.getElem?_eq_getElem hj2)
                rw [List.getElem?_eq_getElem hj] at g5
                obtain rfl := Option.some.inj g5
                exact one_of_enc g6 (List.getElem_mem hj2)
              have hrun : (Builtin.append_ #[t, t] ty #[.slice (some ⟨(m b).blk, (m b).off, none⟩) (m b).len cp, .slice (some ⟨blk, off, none⟩) ys.length c']).run P w =
                  .ok (.slice (some ⟨(m b).blk, (m b).off, none⟩) ((m b).len + ys.length) cp) (w.setRow (m b).blk (splice arr.toList ((m b).len * inf.size) news).toArray) := by
                rw [p0]
                have hf := run_firstCells_some (P := P) w inf.size ys.length ⟨blk, off, none⟩ ys.length c' news hnl (l2 _ rfl)
                have hst2 := run_storeCells_at P (m b).blk ((m b).len * inf.size) ty' news 0 arr w hh (by simpa using hfit) hone
                simp only [Nat.add_zero] at hst2
                simp [Builtin.append_, run_underlying hu, sizeOf, typeInfo, hi, Builtin.lenOf, hroom, hf, Addr.add_lit, hst2, splice]
              refine ⟨_, _, setM m key { m b with len := (m b).len + ys.length }, Imm, hrun, ?_, ?_⟩
              · exact slF_new m key { m b with len := (m b).len + ys.length } cp hroom hcc
              · have hcells := cells_append (k := k') (xs := xs') (ys := ys) (arr := arr.toList) (news := news) (Imm := Imm) (w := w) (fun i j e hi' he => by
                  obtain ⟨v, g5, g6⟩ := p4 i j e hi' he
                  rw [p0, Nat.zero_add, cell_row hh] at g5
                  exact ⟨v, g5, g6⟩) l4 (full := splice arr.toList ((m b).len * inf.size) news)
                  (fun i hi' => by rw [splice_get (by simpa using hfit), if_neg (by rw [hlen, hsz]; omega)])
                  (fun i hi' => by rw [splice_get (by simpa using hfit), hlen, hsz, if_pos (by omega)]; congr 1; omega)
                refine Step.move (key := key) (vb' := .row true k' (xs' ++ ys)) hR hb' hcap0 hfree hr { m b with len := (m b).len + ys.length } rfl (calm_setRow w _ _) (fun r hr => setRow_other hr) ⟨p1, by simp [hlen], by simp; omega, ?_, fun _ _ => ⟨p0, _, ty', setRow_at hh, ?_⟩, fun h => by cases h⟩
                · intro i j e hi' he
                  obtain ⟨v, g5, g6⟩ := hcells i j e hi' he
                  refine ⟨v, ?_, g6.stays (fun _ h => h) (fun r hr => setRow_other (by rintro rfl; exact hR.apart b _ hb' hcap0 hr))⟩
                  rw [p0, Nat.zero_add, cell_row (setRow_at hh)]
                  exact g5
                · rw [List.size_toArray, splice_length (by simpa using hfit), Array.length_toList, hasz]
            · -- a new block
              have fin : ∀ {v : Value} {C : Nat} {olds : List Value}, xs'.length + ys.length ≤ C → olds.length = xs'.length * sz k' → (∀ i j e, i < xs'.length → (enc k' (xs'.getD i (zK k')))[j]? = some e → ∃ v, olds[i * sz k' + j]? = some v ∧ CV Imm w e v) →
                  v = .slice (some ⟨w.heap.size, 0, none⟩) (xs'.length + ys.length) C →
                  (Builtin.append_ #[t, t] ty #[.slice a (m b).len cp, .slice (some ⟨blk, off, none⟩) ys.length c']).run P w = .ok v (w.drew.alloc (.cells (olds.toArray ++ news.toArray ++ Builtin.zeroCells z.cells (C - (xs'.length + ys.length))) e)) →
                  Does P (Builtin.append_ #[t, t] ty #[.slice a (m b).len cp, .slice (some ⟨blk, off, none⟩) ys.length c']) m Imm H w key (.slF key) [(key, some (.row true k' (xs' ++ ys))), (b, none)] := by
                intro v C olds hC ho h1 hv hrun
                have hgr := grown_row (e := e) (z := z.cells) (olds := olds) (news := news) (xs := xs') (ys := ys) (C := C) hst.rel (fun x hx => by
                  rintro (hn | ⟨b', cs', hb2, hxx⟩)
                  · apply hn; rw [upd_cons, upd_nil]; simp only; split
                    · rfl
                    · exact hc.none hx
                  · rcases upd_cases hb2 with hp | ⟨_, hp⟩
                    · simp at hp
                    · exact hc x hx (.inr ⟨b', cs', hp, hxx⟩)) (w0 := w.drew) rfl (drew_calm w) hC hzs ho h1 l1 l4
                have h2 := hst.trans hgr
                rw [swap] at h2
                refine ⟨v, _, _, Imm, hrun, ?_, h2⟩
                subst hv
                have := slF_new m key ⟨w.heap.size, 0, sz k', C, (xs' ++ ys).length⟩ C (by simpa using hC) (Nat.le_refl _)
                simpa using this
              have hcap : ∀ q, xs'.length + ys.length ≤ grownCap w (xs'.length + ys.length) q e := by intro q; unfold grownCap; simp [Question.cut]
              by_cases hl0 : (m b).len = 0
              · have hx0 : xs' = [] := List.length_eq_zero_iff.1 (by omega)
                subst hx0
                cases ha : a with
                | none =>
                  have hc0 : cp = 0 := by
                    rcases Nat.eq_zero_or_pos cp with h | h
                    · exact h
                    · have := (g2 (.inr (by omega))).1; rw [ha] at this; cases this
                  subst ha
                  subst hc0
                  have hrun := run_append_nil (P := P) w t ty e inf z hu hi hz ⟨blk, off, none⟩ ys.length c' news hnl (l2 _ rfl) hpos (by simp at hsum; omega) (by rw [hb]; simp at hbound; omega)
                  refine fin (C := grownCap w ys.length 0 e) (olds := []) (by simpa using hcap 0) (by simp) (fun i j e h => by simp at h) rfl ?_
                  rw [hl0]
                  simpa using hrun
                | some ad =>
                  subst ha
                  have hrun := run_append_grow (P := P) w t ty e inf z hu hi hz ad 0 cp [] (by simp) (fun j v h => by simp at h) ⟨blk, off, none⟩ ys.length c' news hnl (l2 _ rfl) (by omega) (by simp at hsum ⊢; omega) (growslice_fits (by omega) (by rw [hb]; simp at hbound ⊢; omega))
                  refine fin (C := grownCap w ys.length cp e) (olds := []) (by simpa using hcap cp) (by simp) (fun i j e h => by simp at h) rfl ?_
                  rw [hl0]
                  simpa using hrun
              · obtain ⟨rfl, hcc⟩ := g2 (.inl hl0)
                have hcap0 : 0 < (m b).cap := by omega
                obtain ⟨p0, arr, ty', hh, hasz⟩ := p5 rfl hcap0
                have htl : (arr.toList.take (xs'.length * sz k')).length = xs'.length * sz k' := by
                  have ha : arr.toList.length = (m b).cap * sz k' := by rw [Array.length_toList, hasz]
                  rw [List.length_take, ha]
                  exact Nat.min_eq_left (Nat.mul_le_mul_right _ p3)
                have hrun := run_append_grow (P := P) w t ty e inf z hu hi hz ⟨(m b).blk, (m b).off, none⟩ (m b).len cp (arr.toList.take (xs'.length * sz k')) (by rw [htl, hlen, hsz]) (fun j v h => by
                  rw [List.getElem?_take] at h
                  split at h
                  · rw [Addr.add_mid, p0, Nat.zero_add, cell_row hh]; exact h
                  · cases h) ⟨blk, off, none⟩ ys.length c' news hnl (l2 _ rfl) (by omega) (by rw [hlen]; omega) (growslice_fits (by omega) (by rw [hb, hlen]; exact hbound))
                refine fin (C := grownCap w (xs'.length + ys.length) cp e) (olds := arr.toList.take (xs'.length * sz k')) (hcap cp) htl (fun i j e hi' he => by
                  obtain ⟨v, g5, g6⟩ := p4 i j e hi' he
                  rw [p0, Nat.zero_add, cell_row hh] at g5
                  refine ⟨v, ?_, g6⟩
                  have hj : j < sz k' := by have := (List.getElem?_eq_some_iff.1 he).1; rwa [enc_length] at this
                  have : (i + 1) * sz k' ≤ xs'.length * sz k' := Nat.mul_le_mul_right _ hi'
                  rw [List.getElem?_take, if_pos (by rw [Nat.add_mul] at this; omega)]
                  exact g5) rfl ?_
                rw [hlen] at hrun ⊢
                exact hrun
      · exact h.fail.elim
    · exact h.fail.elim
  · exact h.fail.elim

theorem does_append (hT : TOk P T) {t ty : TypeId} {x sv : SV} {vs vx : Value} (hR : Rel m Imm H w) (hc : Clean key H) (hs : V m sv vs) (hx : V m x vx) (h : Holds (evAppend T t sv x H key) s u) :
    Does P (Builtin.append_ #[t, t] ty #[vs, vx]) m Imm H w key s u := by
  unfold evAppend at h
  split at h
  · exact h.fail.elim
  · rename_i k hk
    split at h
    · cases hx
      exact does_appFin (ys := ([] : List (El k))) hT hR hc hs (fun h => absurd rfl h) hk h
    · split at h
      · rename_i k' ys' hsl
        split at h
        · rename_i ys hcast
          obtain ⟨rfl, rfl⟩ := castK_some hcast
          obtain ⟨a, c, rfl, h1, h2⟩ := slice_read hR hx hsl
          exact does_appFin hT hR hc hs h2 hk h
        · exact h.fail.elim
      · exact h.fail.elim
end Go.Proofs.Ytncdakkigkmfjaa.Sx
