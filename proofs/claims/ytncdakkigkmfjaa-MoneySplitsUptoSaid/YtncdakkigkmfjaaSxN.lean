import Derived.Test.YtncdakkigkmfjaaSxU
import Derived.Test.YtncdakkigkmfjaaRows
import Derived.WalkKit
import Derived.ProofKit
import Derived.OpenShut
import Derived.JoinedCond
import Derived.ChangeArms
/-! From the reading of a law's arguments to the evaluator's values, and back to what a row asks. -/
namespace Go.Proofs.Ytncdakkigkmfjaa.Sx
set_option linter.unusedVariables false
set_option linter.unusedSimpArgs false
open Go Go.ChangeShapes Go.WideShapes Go.ChangeAt Go.RowKit

/-- A slice's places. -/
theorem bulk_pos {H : Type} (d : DataW H) : 1 ≤ Rows.uptoBulk d := by
  cases d with
  | lit l => cases l <;> simp [Rows.uptoBulk]
  | nil => simp [Rows.uptoBulk]
  | ptr d => simp [Rows.uptoBulk]
  | slice elems spare => simp [Rows.uptoBulk]
  | agg parts => simp [Rows.uptoBulk]
  | iface t d => simp [Rows.uptoBulk]
  | map entries => simp [Rows.uptoBulk]
  | held h => simp [Rows.uptoBulk]
theorem bulk_length {H : Type} (l : List (DataW H)) : l.length ≤ Rows.uptoBulkAll l := by
  induction l with
  | nil => simp [Rows.uptoBulkAll]
  | cons x r ih => have := bulk_pos x; simp only [Rows.uptoBulkAll, List.length_cons]; omega
theorem bulk_slice {H : Type} (elems spare : List (DataW H)) : elems.length + 1 ≤ Rows.uptoBulk (.slice elems spare) := by
  have h1 := bulk_length elems
  simp only [Rows.uptoBulk]
  omega
/-- What a plain cell holds. -/
inductive PC where
  | i (k : IntKind)
  | b
  | s
  | sl
  | no
  deriving DecidableEq
def PC.fits : PC → Value → Prop
  | .i k, v => ∃ n, v = .int k n ∧ (Lit.int k n).wf = true
  | .b, v => ∃ t, v = .bool t
  | .s, v => ∃ s, v = .string s ∧ s.size ≤ maxLen
  | .sl, v => ∃ a l c, v = .slice a l c
  | .no, _ => False
def fitsL : List PC → List Value → Prop
  | [], vs => vs = []
  | p :: ps, vs => ∃ v r, vs = v :: r ∧ p.fits v ∧ fitsL ps r
theorem fitsL_append : ∀ {ps qs : List PC} {vs us : List Value}, fitsL ps vs → fitsL qs us → fitsL (ps ++ qs) (vs ++ us)
  | [], _, _, _, h, k => by rw [show _ = [] from h]; exact k
  | p :: ps, _, _, _, ⟨v, r, e, h1, h2⟩, k => by subst e; exact ⟨v, _, rfl, h1, fitsL_append h2 k⟩
theorem fitsL_length : ∀ {ps : List PC} {vs : List Value}, fitsL ps vs → vs.length = ps.length
  | [], _, h => by rw [show _ = [] from h]; rfl
  | p :: ps, _, ⟨v, r, e, _, h2⟩ => by subst e; simp [fitsL_length h2]

def joinFs (P : Program) (F : TypeId → Option (List PC)) (total : Nat) : Nat → List Field → Option (List PC)
  | o, [] => if o = total then some [] else none
  | o, f :: fs => if f.offset = o then match F f.type with
    | some ps => if ps.length = P.cellsOf f.type then (joinFs P F total (o + P.cellsOf f.type) fs).map (ps ++ ·) else none
    | none => none
    else none
/-- The cells of a type that is plain all through. -/
def plainT (P : Program) : Nat → TypeId → Option (List PC)
  | 0, _ => none
  | n + 1, t => match P.underlying t with
    | some .bool => some [.b]
    | some (.int k) => some [.i k]
    | some .string => some [.s]
    | some (.slice _) => some [.sl]
    | some (.struct fs) => joinFs P (plainT P n) (P.cellsOf t) 0 fs.toList
    | _ => none

section
variable {H : Type} {enc : TypeId × Value → H} {P : Program} {w : World} {base : Nat} {spare : Nat → Bool} {held : Bool}

theorem joinFs_ok {F : TypeId → Option (List PC)} {m total : Nat}
    (hF : ∀ t ps cs x, F t = some ps → DataW.trod enc P w base spare held m t cs = some x → fitsL ps cs) {cs : List Value} (hl : cs.length = total) :
    ∀ (fs : List Field) (o : Nat) (ps : List PC), joinFs P F total o fs = some ps →
      (∀ f ∈ fs, ∃ y, DataW.trod enc P w base spare held m f.type ((cs.drop f.offset).take (P.cellsOf f.type)) = some y) → fitsL ps (cs.drop o)
  | [], o, ps, h, _ => by
    simp only [joinFs] at h
    split at h
    · obtain rfl := Option.some.inj h
      rename_i e
      subst e
      show cs.drop o = []
      rw [← hl]
      exact List.drop_length
    · cases h
  | f :: fs, o, ps, h, hf => by
    simp only [joinFs] at h
    split at h
    · rename_i e
      split at h
      · rename_i qs hq
        split at h
        · rename_i hn
          obtain ⟨rs, hr, rfl⟩ := Option.map_eq_some_iff.1 h
          obtain ⟨y, hy⟩ := hf f (by simp)
          have h1 := hF _ _ _ _ hq hy
          rw [e] at h1
          have h2 := joinFs_ok hF hl fs _ _ hr (fun g hg => hf g (by simp [hg]))
          have h3 := fitsL_append h1 h2
          rw [show cs.drop (o + P.cellsOf f.type) = (cs.drop o).drop (P.cellsOf f.type) by rw [List.drop_drop], List.take_append_drop] at h3
          exact h3
        · cases h
      · cases h
    · cases h
theorem plainT_ok : ∀ (n m : Nat) (t : TypeId) (ps : List PC) (cs : List Value) (x : DataW H × List MemPlace), plainT P n t = some ps →
    DataW.trod enc P w base spare held m t cs = some x → fitsL ps cs
  | 0, _, _, _, _, _, h, _ => by cases h
  | n + 1, m, t, ps, cs, x, h, hx => by
    simp only [plainT] at h
    split at h
    · rename_i ht
      obtain rfl := Option.some.inj h
      obtain ⟨b, rfl, _⟩ := DataW.trod_bool ht hx
      exact ⟨_, _, rfl, ⟨_, rfl⟩, rfl⟩
    · rename_i k ht
      obtain rfl := Option.some.inj h
      obtain ⟨b, rfl, _, hw⟩ := DataW.trod_int ht hx
      exact ⟨_, _, rfl, ⟨_, rfl, hw⟩, rfl⟩
    · rename_i ht
      obtain rfl := Option.some.inj h
      obtain ⟨b, rfl, _, hw⟩ := DataW.trod_string ht hx
      exact ⟨_, _, rfl, ⟨_, rfl, hw⟩, rfl⟩
    · rename_i e ht
      obtain rfl := Option.some.inj h
      rcases DataW.trod_slice ht hx with ⟨hcs, _⟩ | ⟨a', len', cap', _, _, _, _, hcs, _⟩
      · exact ⟨_, _, hcs, ⟨_, _, _, rfl⟩, rfl⟩
      · exact ⟨_, _, hcs, ⟨_, _, _, rfl⟩, rfl⟩
    · rename_i fs ht
      obtain ⟨xs, m', e, _, hl, hlen, hf⟩ := DataW.trod_struct ht hx
      have := joinFs_ok (m := m') (fun t ps cs x => plainT_ok n m' t ps cs x) hl fs.toList 0 ps h ?_
      · simpa using this
      · intro f hm
        obtain ⟨i, hi, he⟩ := List.getElem_of_mem hm
        have := hf i f (by simp at hi he; simp [hi, he])
        rw [this]
        simp at hi
        exact ⟨_, List.getElem?_eq_getElem (by omega)⟩
    · cases h
end

/-- The cells of a kind's element. -/
def cellP : CS → PC
  | .v (.int k _) => .i k
  | .v (.bool _) => .b
  | .v (.string _) => .s
  | _ => .no
def cellsK (k : RK) : List PC := (enc k (zK k)).map cellP
/-- An element in its range. -/
def InK (k : RK) (x : El k) : Prop := ∃ vs, enc k x = vs.map CS.v ∧ fitsL (cellsK k) vs
theorem wf64 {n : Int} (h : (Lit.int .i64 n).wf = true) : -9223372036854775808 ≤ n ∧ n ≤ 9223372036854775807 := by
  simp [Lit.wf, IntKind.min, IntKind.max, IntKind.signed, IntKind.bits] at h
  omega
theorem InK.u8 {x : Int} (h : InK .u8 x) : 0 ≤ x ∧ x < 256 := by
  obtain ⟨vs, e, v, r, e1, ⟨n, e2, hw⟩, e3⟩ := h
  have e3 : r = [] := e3
  subst e3
  subst e2
  subst e1
  simp [enc] at e
  subst e
  simp [Lit.wf, IntKind.min, IntKind.max, IntKind.signed, IntKind.bits] at hw
  omega
theorem InK.int {x : Int} (h : InK .int x) : -9223372036854775808 ≤ x ∧ x ≤ 9223372036854775807 := by
  obtain ⟨vs, e, v, r, e1, ⟨n, e2, hw⟩, e3⟩ := h
  have e3 : r = [] := e3
  subst e3
  subst e2
  subst e1
  simp [enc] at e
  subst e
  simp [Lit.wf, IntKind.min, IntKind.max, IntKind.signed, IntKind.bits] at hw
  omega
theorem fits_i {k : IntKind} {ps : List PC} {vs : List Value} (h : fitsL (.i k :: ps) vs) : ∃ n r, vs = .int k n :: r ∧ fitsL ps r := by
  obtain ⟨v, r, e, ⟨n, e', _⟩, h⟩ := h
  exact ⟨n, r, by rw [e, e'], h⟩
theorem fits_b {ps : List PC} {vs : List Value} (h : fitsL (.b :: ps) vs) : ∃ n r, vs = .bool n :: r ∧ fitsL ps r := by
  obtain ⟨v, r, e, ⟨n, e'⟩, h⟩ := h
  exact ⟨n, r, by rw [e, e'], h⟩
theorem fits_s {ps : List PC} {vs : List Value} (h : fitsL (.s :: ps) vs) : ∃ n r, vs = .string n :: r ∧ fitsL ps r := by
  obtain ⟨v, r, e, ⟨n, e', _⟩, h⟩ := h
  exact ⟨n, r, by rw [e, e'], h⟩
theorem fits_no {ps : List PC} {vs : List Value} (h : fitsL (.no :: ps) vs) : False := by
  obtain ⟨v, r, e, h, _⟩ := h
  exact h
theorem fits_nil {vs : List Value} (h : fitsL [] vs) : vs = [] := h
theorem fits_dec (k : RK) (vs : List Value) (h : fitsL (cellsK k) vs) : ∃ x, enc k x = vs.map CS.v := by
  cases k
  all_goals simp only [cellsK, enc, zK, List.map_cons, List.map_nil, cellP] at h
  all_goals first
  | exact (fits_no h).elim
  | ((repeat (first | (replace h := fits_i h; obtain ⟨_, _, rfl, h⟩ := h) | (replace h := fits_b h; obtain ⟨_, _, rfl, h⟩ := h) | (replace h := fits_s h; obtain ⟨_, _, rfl, h⟩ := h)))
     first
     | (obtain rfl := fits_nil h
        first | exact ⟨_, rfl⟩ | exact ⟨⟨_, _⟩, rfl⟩ | exact ⟨⟨_, _, _⟩, rfl⟩ | exact ⟨⟨_, _, _, _⟩, rfl⟩ | exact ⟨⟨_, _, _, _, _⟩, rfl⟩ | exact ⟨⟨_, _, _, _, _, _⟩, rfl⟩ | exact ⟨⟨_, _, _, _, _, _, _⟩, rfl⟩ | exact ⟨⟨_, _, _, _, _, _, _, _⟩, rfl⟩ | exact ⟨⟨_, _, _, _, _, _, _, _, _⟩, rfl⟩ | exact ⟨⟨_, _, _, _, _, _, _, _, _, _⟩, rfl⟩ | exact ⟨⟨_, _, _, _, _, _, _, _, _, _, _⟩, rfl⟩ | exact ⟨⟨_, _, _, _, _, _, _, _, _, _, _, _⟩, rfl⟩ | exact ⟨⟨_, _, _, _, _, _, _, _, _, _, _, _, _⟩, rfl⟩ | exact ⟨⟨_, _, _, _, _, _, _, _, _, _, _, _, _, _⟩, rfl⟩ | exact ⟨⟨_, _, _, _, _, _, _, _, _, _, _, _, _, _, _⟩, rfl⟩ | exact ⟨⟨_, _, _, _, _, _, _, _, _, _, _, _, _, _, _, _⟩, rfl⟩)
     | exact (fits_no h).elim)
theorem plain_Vs (m : Nat → Place) : ∀ (vs : List Value), Vs m (plainSV (vs.map CS.v)) vs
  | [] => .nil
  | v :: l => .cons _ _ _ _ (.val _) (plain_Vs m l)

/-- A row that was there. -/
def Opn (w : World) (p : Place) (k : RK) (xs : List (El k)) : Prop :=
  p.sz = sz k ∧ p.len = xs.length ∧ xs.length ≤ p.cap ∧ Reads (fun r => r < w.heap.size) w p k xs ∧ (xs ≠ [] → p.blk < w.heap.size)
theorem Opn.hold {w : World} {p : Place} {k : RK} {xs : List (El k)} (h : Opn w p k xs) (m : Nat → Place) : Hold m (fun r => r < w.heap.size) w p (.row false k xs) :=
  ⟨h.1, h.2.1, h.2.2.1, h.2.2.2.1, (fun e => by cases e), fun _ => h.2.2.2.2⟩
theorem build (k : RK) (Q : Nat → El k → Prop) : ∀ n, (∀ i, i < n → ∃ x, Q i x) → ∃ xs : List (El k), xs.length = n ∧ ∀ i, i < n → Q i (xs.getD i (zK k))
  | 0, _ => ⟨[], rfl, fun i h => absurd h (Nat.not_lt_zero i)⟩
  | n + 1, h => by
    obtain ⟨xs, hl, hq⟩ := build k Q n (fun i hi => h i (by omega))
    obtain ⟨x, hx⟩ := h n (by omega)
    refine ⟨xs ++ [x], by simp [hl], fun i hi => ?_⟩
    by_cases e : i < n
    · rw [show (xs ++ [x]).getD i (zK k) = xs.getD i (zK k) by simp [List.getD, List.getElem?_append, hl, e]]
      exact hq i e
    · obtain rfl : i = n := by omega
      rw [show (xs ++ [x]).getD i (zK k) = x by simp [List.getD, List.getElem?_append, hl]]
      exact hx
theorem cells_get {w : World} {base n : Nat} {a : Addr} {cs : List Value} (h : w.cells? base a n = some cs) : cs.length = n ∧ ∀ j, j < n → w.cell? (a.add j) = cs[j]? := by
  unfold World.cells? at h
  split at h
  · exact ⟨by simpa using mapM_some_length h, fun j hj => mapM_some_get h j j (by simp [hj])⟩
  · cases h
theorem spot_none {w : World} {P : Program} {r : Reach} {base : Nat} {t e : TypeId} {a : Addr} {len cap : Nat} (ht : P.underlying t = some (.slice e)) (h : Value.okWide P w r base t (.slice (some a) len cap)) : a.spot = none := by
  simp only [Value.okWide, ht, Cell.okWide, Cell.ok, World.has] at h
  exact h.2.2.2.1
theorem add_none {b o n : Nat} : (⟨b, o, none⟩ : Addr).add n = ⟨b, o + n, none⟩ := by
  unfold Addr.add
  split
  · rename_i e; subst e; rfl
  · rfl
theorem cell_lt {w : World} {a : Addr} {v : Value} (h : w.cell? a = some v) : a.block < w.heap.size := by
  unfold World.cell? at h
  split at h
  · rename_i e
    exact (Array.getElem?_eq_some_iff.1 e).1
  · cases h

section
variable {H : Type} {enc' : TypeId × Value → H} {P : Program} {w : World} {spare : Nat → Bool} {held : Bool}
theorem open_row {n : Nat} {t e : TypeId} (k : RK) {v : Value} {d : DataW H} {p : List MemPlace} {r : Reach} (ht : P.underlying t = some (.slice e)) (hk : plainT P n e = some (cellsK k)) (hc : P.cellsOf e = sz k) (hz : (cellsK k).length = sz k) (hp : 0 < sz k)
    {b0 : Nat} (hv : Value.okWide P w r b0 t v) (h : DataW.Trod enc' P w 0 spare held t v d p) :
    ∃ (q : Place) (xs : List (El k)), Opn w q k xs ∧ (∀ m b, m b = q → V m (.slF b) v) ∧ xs.length ≤ Rows.uptoBulk d ∧ ∀ x ∈ xs, InK k x := by
  obtain ⟨a, len, cap, rfl⟩ := okWide_slice ht hv
  obtain ⟨fuel, hf⟩ := h
  rcases DataW.trod_slice ht hf with ⟨hcs, hx⟩ | ⟨a', len', cap', elems, rest, m, _, hcs, hx, _, hl, hm, hlen, hel, _, _⟩
  · simp [Value.cells] at hcs
    obtain ⟨rfl, rfl, rfl⟩ := hcs
    refine ⟨⟨0, 0, sz k, 0, 0⟩, [], ⟨rfl, rfl, Nat.le_refl _, fun i j e hi => absurd hi (Nat.not_lt_zero i), fun h => absurd rfl h⟩, fun m b hb => .slF0 b (by rw [hb]), Nat.zero_le _, fun x hx => by cases hx⟩
  · simp [Value.cells] at hcs
    obtain ⟨rfl, rfl, rfl⟩ := hcs
    obtain ⟨blk, off, spot⟩ := a'
    obtain rfl : spot = none := spot_none ht hv
    have one : ∀ i, i < len → ∃ x : El k, InK k x ∧ ∀ j e, (enc k x)[j]? = some e → ∃ v, w.cell? ⟨blk, off + (i * sz k + j), none⟩ = some v ∧ CV (fun r => r < w.heap.size) w e v := by
      intro i hi
      have h1 := hel i hi
      rw [List.getElem?_eq_getElem (by omega)] at h1
      obtain ⟨cs, h2, h3⟩ := Option.bind_eq_some_iff.1 h1
      have h4 := plainT_ok n m e _ _ _ hk h3
      obtain ⟨x, hx⟩ := fits_dec k cs h4
      refine ⟨x, ⟨cs, hx, h4⟩, fun j c hj => ?_⟩
      obtain ⟨h5, h6⟩ := cells_get h2
      rw [hx, List.getElem?_map, Option.map_eq_some_iff] at hj
      obtain ⟨v, hv, rfl⟩ := hj
      have hjl : j < P.cellsOf e := by have := (List.getElem?_eq_some_iff.1 hv).1; omega
      have h7 := h6 j hjl
      rw [add_none, add_none, hv, hc] at h7
      exact ⟨v, by rw [← h7, Nat.add_assoc], .v v⟩
    obtain ⟨xs, hxl, hxs⟩ := build k _ len one
    refine ⟨⟨blk, off, sz k, cap, len⟩, xs, ⟨rfl, hxl.symm, (by rw [hxl]; exact hl), fun i j c hi hc => (hxs i (by omega)).2 j c hc, ?_⟩, fun m b hb => ?_, ?_, ?_⟩
    · intro hne
      have hpos : 0 < len := by cases xs with | nil => exact absurd rfl hne | cons _ _ => simp at hxl; omega
      obtain ⟨⟨vs, e1, e2⟩, h2⟩ := hxs 0 hpos
      have hl' := fitsL_length e2
      have : 0 < vs.length := by omega
      obtain ⟨v, h3, _⟩ := h2 0 (.v vs[0]) (by rw [e1]; simp)
      exact cell_lt h3
    · have := @V.slF m b cap (by rw [hb]; exact hl) (by rw [hb]; exact Nat.le_refl _)
      rw [hb] at this
      exact this
    · have : d = .slice (elems.map (·.1)) (rest.map (·.1)) := congrArg (·.1) hx
      rw [this]
      have h1 := bulk_slice (elems.map (·.1)) (rest.map (·.1))
      simp at h1
      omega
    · intro x hx
      obtain ⟨i, hi, rfl⟩ := List.getElem_of_mem hx
      have := (hxs i (by omega)).1
      rwa [show xs.getD i (zK k) = xs[i] by simp [List.getD, hi]] at this
/-- Two integers and a slice of plain elements. -/
theorem open_iis {n : Nat} {t e : TypeId} (k : RK) {f0 f1 f2 : Field} {v : Value} {d : DataW H} {p : List MemPlace} {r : Reach} (ht : P.underlying t = some (.struct #[f0, f1, f2])) (hct : P.cellsOf t = 3)
    (ho : f0.offset = 0 ∧ f1.offset = 1 ∧ f2.offset = 2) (c0 : P.cellsOf f0.type = 1) (c1 : P.cellsOf f1.type = 1) (c2 : P.cellsOf f2.type = 1)
    (u0 : P.underlying f0.type = some (.int .i64)) (u1 : P.underlying f1.type = some (.int .i64)) (u2 : P.underlying f2.type = some (.slice e)) (hdt : P.cellTypes P.depth t = some [f0.type, f1.type, f2.type])
    (hk : plainT P n e = some (cellsK k)) (hc : P.cellsOf e = sz k) (hz : (cellsK k).length = sz k) (hp : 0 < sz k)
    {b0 : Nat} (hv : Value.okWide P w r b0 t v) (h : DataW.Trod enc' P w 0 spare held t v d p) :
    ∃ (x y : Int) (q : Place) (xs : List (El k)), Opn w q k xs ∧ (∀ m b, m b = q → V m (.agg [.val (.int .i64 x), .val (.int .i64 y), .slF b]) v) ∧ xs.length ≤ Rows.uptoBulk d ∧ (∀ x ∈ xs, InK k x) ∧
      (Lit.int .i64 x).wf = true ∧ (Lit.int .i64 y).wf = true := by
  unfold Value.okWide at hv
  rw [ht] at hv
  obtain ⟨⟨cl⟩, rfl, hcs, ts', hts, _, hrow⟩ := hv
  obtain rfl : [f0.type, f1.type, f2.type] = ts' := Option.some.inj (hdt.symm.trans hts)
  rw [hct] at hcs
  obtain ⟨o0, o1, o2⟩ := ho
  obtain ⟨x0, x1, x2, rfl⟩ : ∃ x0 x1 x2, cl = [x0, x1, x2] := by
    match cl, hcs with
    | [a, b, c], _ => exact ⟨a, b, c, rfl⟩
  obtain ⟨fuel, hf⟩ := h
  obtain ⟨xs, m, _, hx, hl, hlen, hfs⟩ := DataW.trod_struct ht hf
  obtain ⟨y0, y1, y2, rfl⟩ : ∃ y0 y1 y2, xs = [y0, y1, y2] := by
    match xs, hlen with
    | [a, b, c], _ => exact ⟨a, b, c, rfl⟩
  have h0 := hfs 0 f0 rfl
  have h1 := hfs 1 f1 rfl
  have h2 := hfs 2 f2 rfl
  rw [o0, c0] at h0
  rw [o1, c1] at h1
  rw [o2, c2] at h2
  have h0 : DataW.trod enc' P w 0 spare held m f0.type [x0] = some y0 := h0
  have h1 : DataW.trod enc' P w 0 spare held m f1.type [x1] = some y1 := h1
  have h2 : DataW.trod enc' P w 0 spare held m f2.type [x2] = some y2 := h2
  obtain ⟨a, ea, _, wa⟩ := DataW.trod_int u0 h0
  obtain ⟨b, eb, _, wb⟩ := DataW.trod_int u1 h1
  obtain rfl : x0 = _ := (List.cons.inj ea).1
  obtain rfl : x1 = _ := (List.cons.inj eb).1
  obtain ⟨s1, s2, s3, rfl⟩ : ∃ a l c, x2 = .slice a l c := by
    rcases DataW.trod_slice u2 h2 with ⟨hcs, _⟩ | ⟨a', len', cap', _, _, _, _, hcs, _⟩
    · exact ⟨_, _, _, (List.cons.inj hcs).1⟩
    · exact ⟨_, _, _, (List.cons.inj hcs).1⟩
  have hv2 : Value.okWide P w r b0 f2.type (.slice s1 s2 s3) := by
    obtain ⟨u, hu, ho⟩ := hrow 2 (.slice s1 s2 s3) rfl
    obtain rfl : f2.type = u := Option.some.inj hu
    unfold Value.okWide
    rw [u2]
    exact ho
  obtain ⟨q, xs, g1, g2, g3, g4⟩ := open_row (n := n) k u2 hk hc hz hp hv2 (d := y2.1) (p := y2.2) ⟨m, h2⟩
  refine ⟨a, b, q, xs, g1, fun m b hm => .agg _ _ (.cons _ _ _ _ (.val _) (.cons _ _ _ _ (.val _) (.cons _ _ _ _ (g2 m b hm) .nil))), ?_, g4, wa, wb⟩
  have hd : d = .agg [y0.1, y1.1, y2.1] := congrArg (·.1) hx
  rw [hd]
  simp only [Rows.uptoBulk, Rows.uptoBulkAll]
  omega
/-- A struct's cells, as they are. -/
theorem open_vals {n : Nat} {t : TypeId} (ps : List PC) {v : Value} {d : DataW H} {p : List MemPlace} {r : Reach} (hk : plainT P n t = some ps) (hs : (match P.underlying t with | some (.struct _) => true | _ => false) = true)
    {b0 : Nat} (hv : Value.okWide P w r b0 t v) (h : DataW.Trod enc' P w 0 spare held t v d p) :
    ∃ vs : List Value, fitsL ps vs ∧ v = .agg vs.toArray ∧ ∀ m, V m (.agg (vs.map .val)) v := by
  obtain ⟨cs, rfl⟩ : ∃ cs, v = .agg cs := by
    unfold Value.okWide at hv
    cases hu : P.underlying t with
    | none => rw [hu] at hs; cases hs
    | some u => cases u <;> rw [hu] at hs hv <;> first | (cases hs; done) | exact hv.imp fun _ h => h.1
  obtain ⟨fuel, hf⟩ := h
  have h4 := plainT_ok n fuel t _ _ _ hk hf
  refine ⟨_, h4, by simp [Value.cells], fun m => ?_⟩
  refine .agg _ _ ?_
  have : ∀ l : List Value, Vs m (l.map .val) l := by
    intro l
    induction l with
    | nil => exact .nil
    | cons x l ih => exact .cons _ _ _ _ (.val _) ih
  exact this _
/-- A struct of plain cells. -/
theorem open_plain {n : Nat} {t : TypeId} (k : RK) {v : Value} {d : DataW H} {p : List MemPlace} {r : Reach} (hk : plainT P n t = some (cellsK k)) (hs : (match P.underlying t with | some (.struct _) => true | _ => false) = true)
    {b0 : Nat} (hv : Value.okWide P w r b0 t v) (h : DataW.Trod enc' P w 0 spare held t v d p) :
    ∃ x : El k, InK k x ∧ ∀ m, V m (.agg (plainSV (enc k x))) v := by
  obtain ⟨cs, rfl⟩ : ∃ cs, v = .agg cs := by
    unfold Value.okWide at hv
    cases hu : P.underlying t with
    | none => rw [hu] at hs; cases hs
    | some u => cases u <;> rw [hu] at hs hv <;> first | (cases hs; done) | exact hv.imp fun _ h => h.1
  obtain ⟨fuel, hf⟩ := h
  have h4 := plainT_ok n fuel t _ _ _ hk hf
  obtain ⟨x, hx⟩ := fits_dec k _ h4
  refine ⟨x, ⟨_, hx, h4⟩, fun m => ?_⟩
  rw [hx]
  exact .agg _ _ (plain_Vs m _)
end

/-- The opened rows as blocks 0, 1, .. -/
def rowsH (l : List (Place × VB)) (b : Nat) : Option VB := (l[b]?).map (·.2)
def rowsM (l : List (Place × VB)) (b : Nat) : Place := ((l[b]?).map (·.1)).getD ⟨0, 0, 0, 0, 0⟩
theorem law_calls {P : Program} {f : FuncId} {ks : List (Option RK)} {sp : Spec} (g : GOk P f (lift ks sp)) (args : List SV) (l : List (Place × VB)) (vals : Array Value) (W : World)
    (hl : ∀ q ∈ l, ∃ k xs, q.2 = .row false k xs ∧ Opn W q.1 k xs) (hn : l.length ≤ 1000)
    (hV : Vs (rowsM l) args vals.toList) (hi : ∀ b ∈ idsL args, b < l.length) (hs : Holds (lift ks sp args (rowsH l) 1000) (.val (.bool true)) []) :
    Calls P f vals W fun e W' => e = .returned (.bool true) ∧ Below W.heap.size W W' := by
  have row : ∀ b vb, rowsH l b = some vb → ∃ k xs, vb = .row false k xs ∧ Opn W (rowsM l b) k xs := by
    intro b vb hb
    unfold rowsH at hb
    obtain ⟨q, hq, rfl⟩ := Option.map_eq_some_iff.1 hb
    obtain ⟨k, xs, h1, h2⟩ := hl q (List.mem_of_getElem? hq)
    exact ⟨k, xs, h1, by unfold rowsM; rw [hq]; exact h2⟩
  have notOwn : ∀ b vb, rowsH l b = some vb → ¬ Own (rowsM l b) vb := by
    intro b vb hb ho
    obtain ⟨k, xs, rfl, _⟩ := row b vb hb
    exact ho
  refine (g.calls args (rowsH l) 1000 _ [] hs (rowsM l) (fun r => r < W.heap.size) W vals ?_ ?_ ?_ hV).mono ?_
  · refine ⟨?_, fun b b' vb vb' h _ o => absurd o (notOwn b vb h), fun b vb h o => absurd o (notOwn b vb h), fun r h => h⟩
    intro b vb hb
    obtain ⟨k, xs, rfl, h⟩ := row b vb hb
    exact h.hold _
  · rintro b hb (h | ⟨b', cs, h, _⟩)
    · have hlt : b < l.length := by
        unfold rowsH at h
        rcases Nat.lt_or_ge b l.length with h' | h'
        · exact h'
        · rw [List.getElem?_eq_none h'] at h; exact absurd rfl h
      rw [inRange_iff] at hb
      omega
    · obtain ⟨k, xs, h1, _⟩ := row b' _ h
      cases h1
  · intro b hb
    have := hi b hb
    cases e : inRange 1000 b with
    | false => rfl
    | true => rw [inRange_iff] at e; omega
  · rintro e W' ⟨m', Imm', v, rfl, hv, st⟩
    refine ⟨by cases hv; rfl, st.calm.os, st.calm.tape, st.calm.output, st.calm.size, fun r hr => st.keep r hr ?_⟩
    rintro (h | ⟨b, vb, h, o, _⟩)
    · omega
    · exact notOwn b vb h o
end Go.Proofs.Ytncdakkigkmfjaa.Sx
