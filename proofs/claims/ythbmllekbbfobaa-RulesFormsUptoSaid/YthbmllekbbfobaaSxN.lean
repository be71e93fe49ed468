import Derived.Test.YthbmllekbbfobaaSxU
import Derived.Test.YthbmllekbbfobaaRows
import Derived.WalkKit
import Derived.ProofKit
import Derived.OpenShut
import Derived.JoinedCond
import Derived.ChangeArms
/-! From the reading of a law's arguments to the evaluator's values, and back to what a row asks. -/
namespace Go.Proofs.Ythbmllekbbfobaa.Sx
set_option linter.unusedVariables false
set_option linter.unusedSimpArgs false
open Go Go.ChangeShapes Go.WideShapes Go.ChangeAt Go.RowKit

/-- A slice's places. -/
theorem bulk_pos {H : Type} (d : DataW H) : 1 ≤ Rows.uptoBulk d := by
  cases d with
  | lit l => cases l <;> simp [Rows.uptoBulk]
  | nil => simp [Rows.uptoBulk]
  | ptr d => simp [Rows.uptoBulk]
  | slice elems spare => simp [Rows.uptoBulk]
  | agg parts => simp [Rows.uptoBulk]
  | iface t d => simp [Rows.uptoBulk]
  | map entries => simp [Rows.uptoBulk]
  | held h => simp [Rows.uptoBulk]
theorem bulk_length {H : Type} (l : List (DataW H)) : l.length ≤ Rows.uptoBulkAll l := by
  induction l with
  | nil => simp [Rows.uptoBulkAll]
  | cons x r ih => have := bulk_pos x; simp only [Rows.uptoBulkAll, List.length_cons]; omega
theorem bulk_slice {H : Type} (elems spare : List (DataW H)) : elems.length + 1 ≤ Rows.uptoBulk (.slice elems spare) := by
  have h1 := bulk_length elems
  simp only [Rows.uptoBulk]
  omega
/-- What a plain cell holds. -/
inductive PC where
  | i (k : IntKind)
  | b
  | s
  | sl
  | no
  deriving DecidableEq
def PC.fits : PC → Value → Prop
  | .i k, v => ∃ n, v = .int k n ∧ (Lit.int k n).wf = true
  | .b, v => ∃ t, v = .bool t
  | .s, v => ∃ s, v = .string s ∧ s.size ≤ maxLen
  | .sl, v => ∃ a l c, v = .slice a l c
  | .no, _ => False
def fitsL : List PC → List Value → Prop
  | [], vs => vs = []
  | p :: ps, vs => ∃ v r, vs = v :: r ∧ p.fits v ∧ fitsL ps r
theorem fitsL_append : ∀ {ps qs : List PC} {vs us : List Value}, fitsL ps vs → fitsL qs us → fitsL (ps ++ qs) (vs ++ us)
  | [], _, _, _, h, k => by rw [show _ = [] from h]; exact k
  | p :: ps, _, _, _, ⟨v, r, e, h1, h2⟩, k => by subst e; exact ⟨v, _, rfl, h1, fitsL_append h2 k⟩
theorem fitsL_length : ∀ {ps : List PC} {vs : List Value}, fitsL ps vs → vs.length = ps.length
  | [], _, h => by rw [show _ = [] from h]; rfl
  | p :: ps, _, ⟨v, r, e, _, h2⟩ => by subst e; simp [fitsL_length h2]

def joinFs (P : Program) (F : TypeId → Option (List PC)) (total : Nat) : Nat → List Field → Option (List PC)
  | o, [] => if o = total then some [] else none
  | o, f :: fs => if f.offset = o then match F f.type with
    | some ps => if ps.length = P.cellsOf f.type then (joinFs P F total (o + P.cellsOf f.type) fs).map (ps ++ ·) else none
    | none => none
    else none
/-- The cells of a type that is plain all through. -/
def plainT (P : Program) : Nat → TypeId → Option (List PC)
  | 0, _ => none
  | n + 1, t => match P.underlying t with
    | some .bool => some [.b]
    | some (.int k) => some [.i k]
    | some .string => some [.s]
    | some (.slice _) => some [.sl]
    | some (.struct fs) => joinFs P (plainT P n) (P.cellsOf t) 0 fs.toList
    | _ => none

section
variable {H : Type} {enc : TypeId × Value → H} {P : Program} {w : World} {base : Nat} {spare : Nat → Bool} {held : Bool}

theorem joinFs_ok {F : TypeId → Option (List PC)} {m total : Nat}
    (hF : ∀ t ps cs x, F t = some ps → DataW.trod enc P w base spare held m t cs = some x → fitsL ps cs) {cs : List Value} (hl : cs.length = total) :
    ∀ (fs : List Field) (o : Nat) (ps : List PC), joinFs P F total o fs = some ps →
      (∀ f ∈ fs, ∃ y, DataW.trod enc P w base spare held m f.type ((cs.drop f.offset).take (P.cellsOf f.type)) = some y) → fitsL ps (cs.drop o)
  | [], o, ps, h, _ => by
    simp only [joinFs] at h
    split at h
    · obtain rfl := Option.some.inj h
      rename_i e
      subst e
      show cs.drop o = []
      rw [← hl]
      exact List.drop_length
    · cases h
  | f :: fs, o, ps, h, hf => by
    simp only [joinFs] at h
    split at h
    · rename_i e
      split at h
      · rename_i qs hq
        split at h
        · rename_i hn
          obtain ⟨rs, hr, rfl⟩ := Option.map_eq_some_iff.1 h
          obtain ⟨y, hy⟩ := hf f (by simp)
          have h1 := hF _ _ _ _ hq hy
          rw [e] at h1
          have h2 := joinFs_ok hF hl fs _ _ hr (fun g hg => hf g (by simp [hg]))
          have h3 := fitsL_append h1 h2
          rw [show cs.drop (o + P.cellsOf f.type) = (cs.drop o).drop (P.cellsOf f.type) by rw [List.drop_drop], List.take_append_drop] at h3
          exact h3
        · cases h
      · cases h
    · cases h
theorem plainT_ok : ∀ (n m : Nat) (t : TypeId) (ps : List PC) (cs : List Value) (x : DataW H × List MemPlace), plainT P n t = some ps →
    DataW.trod enc P w base spare held m t cs = some x → fitsL ps cs
  | 0, _, _, _, _, _, h, _ => by cases h
  | n + 1, m, t, ps, cs, x, h, hx => by
    simp only [plainT] at h
    split at h
    · rename_i ht
      obtain rfl := Option.some.inj h
      obtain ⟨b, rfl, _⟩ := DataW.trod_bool ht hx
      exact ⟨_, _, rfl, ⟨_, rfl⟩, rfl⟩
    · rename_i k ht
      obtain rfl := Option.some.inj h
      obtain ⟨b, rfl, _, hw⟩ := DataW.trod_int ht hx
      exact ⟨_, _, rfl, ⟨_, rfl, hw⟩, rfl⟩
    · rename_i ht
      obtain rfl := Option.some.inj h
      obtain ⟨b, rfl, _, hw⟩ := DataW.trod_string ht hx
      exact ⟨_, _, rfl, ⟨_, rfl, hw⟩, rfl⟩
    · rename_i e ht
      obtain rfl := Option.some.inj h
      rcases DataW.trod_slice ht hx with ⟨hcs, _⟩ | ⟨a', len', cap', _, _, _, _, hcs, _⟩
      · exact ⟨_, _, hcs, ⟨_, _, _, rfl⟩, rfl⟩
      · exact ⟨_, _, hcs, ⟨_, _, _, rfl⟩, rfl⟩
    · rename_i fs ht
      obtain ⟨xs, m', e, _, hl, hlen, hf⟩ := DataW.trod_struct ht hx
      have := joinFs_ok (m := m') (fun t ps cs x => plainT_ok n m' t ps cs x) hl fs.toList 0 ps h ?_
      · simpa using this
      · intro f hm
        obtain ⟨i, hi, he⟩ := List.getElem_of_mem hm
        have := hf i f (by simp at hi he; simp [hi, he])
        rw [this]
        simp at hi
        exact ⟨_, List.getElem?_eq_getElem (by omega)⟩
    · cases h
end

/-- The cells of a kind's element. -/
def cellP : CS → PC
  | .v (.int k _) => .i k
  | .v (.bool _) => .b
  | .v (.string _) => .s
  | _ => .no
def cellsK (k : RK) : List PC := (enc k (zK k)).map cellP
/-- An element in its range. -/
def InK (k : RK) (x : El k) : Prop := ∃ vs, enc k x = vs.map CS.v ∧ fitsL (cellsK k) vs
theorem wf64 {n : Int} (h : (Lit.int .i64 n).wf = true) : -9223372036854775808 ≤ n ∧ n ≤ 9223372036854775807 := by
  simp [Lit.wf, IntKind.min, IntKind.max, IntKind.signed, IntKind.bits] at h
  omega
theorem InK.u8 {x : Int} (h : InK .u8 x) : 0 ≤ x ∧ x < 256 := by
  obtain ⟨vs, e, v, r, e1, ⟨n, e2, hw⟩, e3⟩ := h
  have e3 : r = [] := e3
  subst e3
  subst e2
  subst e1
  simp [enc] at e
  subst e
  simp [Lit.wf, IntKind.min, IntKind.max, IntKind.signed, IntKind.bits] at hw
  omega
theorem fitsL_at : ∀ {ps : List PC} {vs : List Value} {j : Nat} {n : Int}, fitsL ps vs → ps[j]? = some (.i .i64) → vs[j]? = some (.int .i64 n) → -9223372036854775808 ≤ n ∧ n ≤ 9223372036854775807
  | [], _, j, _, _, h, _ => by cases j <;> cases h
  | p :: ps, _, 0, n, ⟨v, r, e, h1, _⟩, h, hv => by
    subst e
    obtain rfl := Option.some.inj h
    obtain rfl := Option.some.inj hv
    obtain ⟨m, e, hw⟩ := h1
    cases e
    exact wf64 hw
  | p :: ps, _, j + 1, n, ⟨v, r, e, _, h2⟩, h, hv => by
    subst e
    exact fitsL_at (j := j) h2 h hv
/-- A cell's range. -/
theorem InK.at {k : RK} {x : El k} (h : InK k x) (j : Nat) {n : Int} (hp : (cellsK k)[j]? = some (.i .i64)) (he : (enc k x)[j]? = some (.v (.int .i64 n))) : -9223372036854775808 ≤ n ∧ n ≤ 9223372036854775807 := by
  obtain ⟨vs, e, hf⟩ := h
  rw [e, List.getElem?_map] at he
  cases hv : vs[j]? with
  | none => rw [hv] at he; cases he
  | some v =>
    rw [hv] at he
    obtain rfl : v = .int .i64 n := by simpa using he
    exact fitsL_at hf hp hv
theorem InK.int {x : Int} (h : InK .int x) : -9223372036854775808 ≤ x ∧ x ≤ 9223372036854775807 := by
  obtain ⟨vs, e, v, r, e1, ⟨n, e2, hw⟩, e3⟩ := h
  have e3 : r = [] := e3
  subst e3
  subst e2
  subst e1
  simp [enc] at e
  subst e
  simp [Lit.wf, IntKind.min, IntKind.max, IntKind.signed, IntKind.bits] at hw
  omega
theorem fits_i {k : IntKind} {ps : List PC} {vs : List Value} (h : fitsL (.i k :: ps) vs) : ∃ n r, vs = .int k n :: r ∧ fitsL ps r := by
  obtain ⟨v, r, e, ⟨n, e', _⟩, h⟩ := h
  exact ⟨n, r, by rw [e, e'], h⟩
theorem fits_b {ps : List PC} {vs : List Value} (h : fitsL (.b :: ps) vs) : ∃ n r, vs = .bool n :: r ∧ fitsL ps r := by
  obtain ⟨v, r, e, ⟨n, e'⟩, h⟩ := h
  exact ⟨n, r, by rw [e, e'], h⟩
theorem fits_s {ps : List PC} {vs : List Value} (h : fitsL (.s :: ps) vs) : ∃ n r, vs = .string n :: r ∧ fitsL ps r := by
  obtain ⟨v, r, e, ⟨n, e', _⟩, h⟩ := h
  exact ⟨n, r, by rw [e, e'], h⟩
theorem fits_no {ps : List PC} {vs : List Value} (h : fitsL (.no :: ps) vs) : False := by
  obtain ⟨v, r, e, h, _⟩ := h
  exact h
theorem fits_nil {vs : List Value} (h : fitsL [] vs) : vs = [] := h
theorem fits_dec (k : RK) (vs : List Value) (h : fitsL (cellsK k) vs) : ∃ x, enc k x = vs.map CS.v := by
  cases k
  all_goals simp only [cellsK, enc, zK, List.map_cons, List.map_nil, cellP] at h
  all_goals first
  | exact (fits_no h).elim
  | ((repeat (first | (replace h := fits_i h; obtain ⟨_, _, rfl, h⟩ := h) | (replace h := fits_b h; obtain ⟨_, _, rfl, h⟩ := h) | (replace h := fits_s h; obtain ⟨_, _, rfl, h⟩ := h)))
     first
     | (obtain rfl := fits_nil h
        first | exact ⟨_, rfl⟩ | exact ⟨⟨_, _⟩, rfl⟩ | exact ⟨⟨_, _, _⟩, rfl⟩ | exact ⟨⟨_, _, _, _⟩, rfl⟩ | exact ⟨⟨_, _, _, _, _⟩, rfl⟩ | exact ⟨⟨_, _, _, _, _, _⟩, rfl⟩ | exact ⟨⟨_, _, _, _, _, _, _⟩, rfl⟩ | exact ⟨⟨_, _, _, _, _, _, _, _⟩, rfl⟩ | exact ⟨⟨_, _, _, _, _, _, _, _, _⟩, rfl⟩ | exact ⟨⟨_, _, _, _, _, _, _, _, _, _⟩, rfl⟩ | exact ⟨⟨_, _, _, _, _, _, _, _, _, _, _⟩, rfl⟩ | exact ⟨⟨_, _, _, _, _, _, _, _, _, _, _, _⟩, rfl⟩ | exact ⟨⟨_, _, _, _, _, _, _, _, _, _, _, _, _⟩, rfl⟩ | exact ⟨⟨_, _, _, _, _, _, _, _, _, _, _, _, _, _⟩, rfl⟩ | exact ⟨⟨_, _, _, _, _, _, _, _, _, _, _, _, _, _, _⟩, rfl⟩ | exact ⟨⟨_, _, _, _, _, _, _, _, _, _, _, _, _, _, _, _⟩, rfl⟩)
     | exact (fits_no h).elim)
theorem plain_Vs (m : Nat → Place) : ∀ (vs : List Value), Vs m (plainSV (vs.map CS.v)) vs
  | [] => .nil
  | v :: l => .cons _ _ _ _ (.val _) (plain_Vs m l)

/-- A row that was there. -/
def Opn (w : World) (p : Place) (k : RK) (xs : List (El k)) : Prop :=
  p.sz = sz k ∧ p.len = xs.length ∧ xs.length ≤ p.cap ∧ Reads (fun r => r < w.heap.size) w p k xs ∧ (xs ≠ [] → p.blk < w.heap.size)
theorem Opn.hold {w : World} {p : Place} {k : RK} {xs : List (El k)} (h : Opn w p k xs) (m : Nat → Place) : Hold m (fun r => r < w.heap.size) w p (.row false k xs) :=
  ⟨h.1, h.2.1, h.2.2.1, h.2.2.2.1, (fun e => by cases e), fun _ => h.2.2.2.2⟩
theorem build (k : RK) (Q : Nat → El k → Prop) : ∀ n, (∀ i, i < n → ∃ x, Q i x) → ∃ xs : List (El k), xs.length = n ∧ ∀ i, i < n → Q i (xs.getD i (zK k))
  | 0, _ => ⟨[], rfl, fun i h => absurd h (Nat.not_lt_zero i)⟩
  | n + 1, h => by
    obtain ⟨xs, hl, hq⟩ := build k Q n (fun i hi => h i (by omega))
    obtain ⟨x, hx⟩ := h n (by omega)
    refine ⟨xs ++ [x], by simp [hl], fun i hi => ?_⟩
    by_cases e : i < n
    · rw [show (xs ++ [x]).getD i (zK k) = xs.getD i (zK k) by simp [List.getD, List.getElem?_append, hl, e]]
      exact hq i e
    · obtain rfl : i = n := by omega
      rw [show (xs ++ [x]).getD i (zK k) = x by simp [List.getD, List.getElem?_append, hl]]
      exact hx
theorem cells_get {w : World} {base n : Nat} {a : Addr} {cs : List Value} (h : w.cells? base a n = some cs) : cs.length = n ∧ ∀ j, j < n → w.cell? (a.add j) = cs[j]? := by
  unfold World.cells? at h
  split at h
  · exact ⟨by simpa using mapM_some_length h, fun j hj => mapM_some_get h j j (by simp [hj])⟩
  · cases h
theorem spot_none {w : World} {P : Program} {r : Reach} {base : Nat} {t e : TypeId} {a : Addr} {len cap : Nat} (ht : P.underlying t = some (.slice e)) (h : Value.okWide P w r base t (.slice (some a) len cap)) : a.spot = none := by
  simp only [Value.okWide, ht, Cell.okWide, Cell.ok, World.has] at h
  exact h.2.2.2.1
theorem add_none {b o n : Nat} : (⟨b, o, none⟩ : Addr).add n = ⟨b, o + n, none⟩ := by
  unfold Addr.add
  split
  · rename_i e; subst e; rfl
  · rfl
theorem cell_lt {w : World} {a : Addr} {v : Value} (h : w.cell? a = some v) : a.block < w.heap.size := by
  unfold World.cell? at h
  split at h
  · rename_i e
    exact (Array.getElem?_eq_some_iff.1 e).1
  · cases h

section
variable {H : Type} {enc' : TypeId × Value → H} {P : Program} {w : World} {spare : Nat → Bool} {held : Bool}
theorem open_row {n : Nat} {t e : TypeId} (k : RK) {v : Value} {d : DataW H} {p : List MemPlace} {r : Reach} (ht : P.underlying t = some (.slice e)) (hk : plainT P n e = some (cellsK k)) (hc : P.cellsOf e = sz k) (hz : (cellsK k).length = sz k) (hp : 0 < sz k)
    {b0 : Nat} (hv : Value.okWide P w r b0 t v) (h : DataW.Trod enc' P w 0 spare held t v d p) :
    ∃ (q : Place) (xs : List (El k)), Opn w q k xs ∧ (∀ m b, m b = q → V m (.slF b) v) ∧ xs.length ≤ Rows.uptoBulk d ∧ ∀ x ∈ xs, InK k x := by
  obtain ⟨a, len, cap, rfl⟩ := okWide_slice ht hv
  obtain ⟨fuel, hf⟩ := h
  rcases DataW.trod_slice ht hf with ⟨hcs, hx⟩ | ⟨a', len', cap', elems, rest, m, _, hcs, hx, _, hl, hm, hlen, hel, _, _⟩
  · simp [Value.cells] at hcs
    obtain ⟨rfl, rfl, rfl⟩ := hcs
    refine ⟨⟨0, 0, sz k, 0, 0⟩, [], ⟨rfl, rfl, Nat.le_refl _, fun i j e hi => absurd hi (Nat.not_lt_zero i), fun h => absurd rfl h⟩, fun m b hb => .slF0 b none (by rw [hb]), Nat.zero_le _, fun x hx => by cases hx⟩
  · simp [Value.cells] at hcs
    obtain ⟨rfl, rfl, rfl⟩ := hcs
    obtain ⟨blk, off, spot⟩ := a'
    obtain rfl : spot = none := spot_none ht hv
    have one : ∀ i, i < len → ∃ x : El k, InK k x ∧ ∀ j e, (enc k x)[j]? = some e → ∃ v, w.cell? ⟨blk, off + (i * sz k + j), none⟩ = some v ∧ CV (fun r => r < w.heap.size) w e v := by
      intro i hi
      have h1 := hel i hi
      rw [List.getElem?_eq_getElem (by omega)] at h1
      obtain ⟨cs, h2, h3⟩ := Option.bind_eq_some_iff.1 h1
      have h4 := plainT_ok n m e _ _ _ hk h3
      obtain ⟨x, hx⟩ := fits_dec k cs h4
      refine ⟨x, ⟨cs, hx, h4⟩, fun j c hj => ?_⟩
      obtain ⟨h5, h6⟩ := cells_get h2
      rw [hx, List.getElem?_map, Option.map_eq_some_iff] at hj
      obtain ⟨v, hv, rfl⟩ := hj
      have hjl : j < P.cellsOf e := by have := (List.getElem?_eq_some_iff.1 hv).1; omega
      have h7 := h6 j hjl
      rw [add_none, add_none, hv, hc] at h7
      exact ⟨v, by rw [← h7, Nat.add_assoc], .v v⟩
    obtain ⟨xs, hxl, hxs⟩ := build k _ len one
    refine ⟨⟨blk, off, sz k, cap, len⟩, xs, ⟨rfl, hxl.symm, (by rw [hxl]; exact hl), fun i j c hi hc => (hxs i (by omega)).2 j c hc, ?_⟩, fun m b hb => ?_, ?_, ?_⟩
    · intro hne
      have hpos : 0 < len := by cases xs with | nil => exact absurd rfl hne | cons _ _ => simp at hxl; omega
      obtain ⟨⟨vs, e1, e2⟩, h2⟩ := hxs 0 hpos
      have hl' := fitsL_length e2
      have : 0 < vs.length := by omega
      obtain ⟨v, h3, _⟩ := h2 0 (.v vs[0]) (by rw [e1]; simp)
      exact cell_lt h3
    · have := @V.slF m b cap (by rw [hb]; exact hl) (by rw [hb]; exact Nat.le_refl _)
      rw [hb] at this
      exact this
    · have : d = .slice (elems.map (·.1)) (rest.map (·.1)) := congrArg (·.1) hx
      rw [this]
      have h1 := bulk_slice (elems.map (·.1)) (rest.map (·.1))
      simp at h1
      omega
    · intro x hx
      obtain ⟨i, hi, rfl⟩ := List.getElem_of_mem hx
      have := (hxs i (by omega)).1
      rwa [show xs.getD i (zK k) = xs[i] by simp [List.getD, hi]] at this
/-- Two integers and a slice of plain elements. -/
theorem open_iis {n : Nat} {t e : TypeId} (k : RK) {f0 f1 f2 : Field} {v : Value} {d : DataW H} {p : List MemPlace} {r : Reach} (ht : P.underlying t = some (.struct #[f0, f1, f2])) (hct : P.cellsOf t = 3)
    (ho : f0.offset = 0 ∧ f1.offset = 1 ∧ f2.offset = 2) (c0 : P.cellsOf f0.type = 1) (c1 : P.cellsOf f1.type = 1) (c2 : P.cellsOf f2.type = 1)
    (u0 : P.underlying f0.type = some (.int .i64)) (u1 : P.underlying f1.type = some (.int .i64)) (u2 : P.underlying f2.type = some (.slice e)) (hdt : P.cellTypes P.depth t = some [f0.type, f1.type, f2.type])
    (hk : plainT P n e = some (cellsK k)) (hc : P.cellsOf e = sz k) (hz : (cellsK k).length = sz k) (hp : 0 < sz k)
    {b0 : Nat} (hv : Value.okWide P w r b0 t v) (h : DataW.Trod enc' P w 0 spare held t v d p) :
    ∃ (x y : Int) (q : Place) (xs : List (El k)), Opn w q k xs ∧ (∀ m b, m b = q → V m (.agg [.val (.int .i64 x), .val (.int .i64 y), .slF b]) v) ∧ xs.length ≤ Rows.uptoBulk d ∧ (∀ x ∈ xs, InK k x) ∧
      (Lit.int .i64 x).wf = true ∧ (Lit.int .i64 y).wf = true := by
  unfold Value.okWide at hv
  rw [ht] at hv
  obtain ⟨⟨cl⟩, rfl, hcs, ts', hts, _, hrow⟩ := hv
  obtain rfl : [f0.type, f1.type, f2.type] = ts' := Option.some.inj (hdt.symm.trans hts)
  rw [hct] at hcs
  obtain ⟨o0, o1, o2⟩ := ho
  obtain ⟨x0, x1, x2, rfl⟩ : ∃ x0 x1 x2, cl = [x0, x1, x2] := by
    match cl, hcs with
    | [a, b, c], _ => exact ⟨a, b, c, rfl⟩
  obtain ⟨fuel, hf⟩ := h
  obtain ⟨xs, m, _, hx, hl, hlen, hfs⟩ := DataW.trod_struct ht hf
  obtain ⟨y0, y1, y2, rfl⟩ : ∃ y0 y1 y2, xs = [y0, y1, y2] := by
    match xs, hlen with
    | [a, b, c], _ => exact ⟨a, b, c, rfl⟩
  have h0 := hfs 0 f0 rfl
  have h1 := hfs 1 f1 rfl
  have h2 := hfs 2 f2 rfl
  rw [o0, c0] at h0
  rw [o1, c1] at h1
  rw [o2, c2] at h2
  have h0 : DataW.trod enc' P w 0 spare held m f0.type [x0] = some y0 := h0
  have h1 : DataW.trod enc' P w 0 spare held m f1.type [x1] = some y1 := h1
  have h2 : DataW.trod enc' P w 0 spare held m f2.type [x2] = some y2 := h2
  obtain ⟨a, ea, _, wa⟩ := DataW.trod_int u0 h0
  obtain ⟨b, eb, _, wb⟩ := DataW.trod_int u1 h1
  obtain rfl : x0 = _ := (List.cons.inj ea).1
  obtain rfl : x1 = _ := (List.cons.inj eb).1
  obtain ⟨s1, s2, s3, rfl⟩ : ∃ a l c, x2 = .slice a l c := by
    rcases DataW.trod_slice u2 h2 with ⟨hcs, _⟩ | ⟨a', len', cap', _, _, _, _, hcs, _⟩
    · exact ⟨_, _, _, (List.cons.inj hcs).1⟩
    · exact ⟨_, _, _, (List.cons.inj hcs).1⟩
  have hv2 : Value.okWide P w r b0 f2.type (.slice s1 s2 s3) := by
    obtain ⟨u, hu, ho⟩ := hrow 2 (.slice s1 s2 s3) rfl
    obtain rfl : f2.type = u := Option.some.inj hu
    unfold Value.okWide
    rw [u2]
    exact ho
  obtain ⟨q, xs, g1, g2, g3, g4⟩ := open_row (n := n) k u2 hk hc hz hp hv2 (d := y2.1) (p := y2.2) ⟨m, h2⟩
  refine ⟨a, b, q, xs, g1, fun m b hm => .agg _ _ (.cons _ _ _ _ (.val _) (.cons _ _ _ _ (.val _) (.cons _ _ _ _ (g2 m b hm) .nil))), ?_, g4, wa, wb⟩
  have hd : d = .agg [y0.1, y1.1, y2.1] := congrArg (·.1) hx
  rw [hd]
  simp only [Rows.uptoBulk, Rows.uptoBulkAll]
  omega
/-- A struct's cells, as they are. -/
theorem open_vals {n : Nat} {t : TypeId} (ps : List PC) {v : Value} {d : DataW H} {p : List MemPlace} {r : Reach} (hk : plainT P n t = some ps) (hs : (match P.underlying t with | some (.struct _) => true | _ => false) = true)
    {b0 : Nat} (hv : Value.okWide P w r b0 t v) (h : DataW.Trod enc' P w 0 spare held t v d p) :
    ∃ vs : List Value, fitsL ps vs ∧ v = .agg vs.toArray ∧ ∀ m, V m (.agg (vs.map .val)) v := by
  obtain ⟨cs, rfl⟩ : ∃ cs, v = .agg cs := by
    unfold Value.okWide at hv
    cases hu : P.underlying t with
    | none => rw [hu] at hs; cases hs
    | some u => cases u <;> rw [hu] at hs hv <;> first | (cases hs; done) | exact hv.imp fun _ h => h.1
  obtain ⟨fuel, hf⟩ := h
  have h4 := plainT_ok n fuel t _ _ _ hk hf
  refine ⟨_, h4, by simp [Value.cells], fun m => ?_⟩
  refine .agg _ _ ?_
  have : ∀ l : List Value, Vs m (l.map .val) l := by
    intro l
    induction l with
    | nil => exact .nil
    | cons x l ih => exact .cons _ _ _ _ (.val _) ih
  exact this _
/-- A struct of plain cells. -/
theorem open_plain {n : Nat} {t : TypeId} (k : RK) {v : Value} {d : DataW H} {p : List MemPlace} {r : Reach} (hk : plainT P n t = some (cellsK k)) (hs : (match P.underlying t with | some (.struct _) => true | _ => false) = true)
    {b0 : Nat} (hv : Value.okWide P w r b0 t v) (h : DataW.Trod enc' P w 0 spare held t v d p) :
    ∃ x : El k, InK k x ∧ ∀ m, V m (.agg (plainSV (enc k x))) v := by
  obtain ⟨cs, rfl⟩ : ∃ cs, v = .agg cs := by
    unfold Value.okWide at hv
    cases hu : P.underlying t with
    | none => rw [hu] at hs; cases hs
    | some u => cases u <;> rw [hu] at hs hv <;> first | (cases hs; done) | exact hv.imp fun _ h => h.1
  obtain ⟨fuel, hf⟩ := h
  have h4 := plainT_ok n fuel t _ _ _ hk hf
  obtain ⟨x, hx⟩ := fits_dec k _ h4
  refine ⟨x, ⟨_, hx, h4⟩, fun m => ?_⟩
  rw [hx]
  exact .agg _ _ (plain_Vs m _)
end

/-! Slices within elements. -/
inductive PD where
  | i (k : IntKind)
  | b
  | s
  | sl (k : RK)
  | no
  deriving DecidableEq
def cellD : CS → PD
  | .v (.int k _) => .i k
  | .v (.bool _) => .b
  | .v (.string _) => .s
  | .s k _ => .sl k
  | _ => .no
def pdK (k : RK) : List PD := (enc k (zK k)).map cellD
/-- A cell in its range. -/
inductive InC : CS → Prop
  | int (k : IntKind) (n : Int) (h : (Lit.int k n).wf = true) : InC (.v (.int k n))
  | bool (t : Bool) : InC (.v (.bool t))
  | str (t : ByteArray) (h : t.size ≤ maxLen) : InC (.v (.string t))
  | s (k : RK) (ys : List (El k)) (h : ∀ (i j : Nat) (e : CS), i < ys.length → (enc k (ys.getD i (zK k)))[j]? = some e → InC e) : InC (.s k ys)
def InD (k : RK) (x : El k) : Prop := ∀ e ∈ enc k x, InC e
def joinD (P : Program) (F : TypeId → Option (List PD)) (total : Nat) : Nat → List Field → Option (List PD)
  | o, [] => if o = total then some [] else none
  | o, f :: fs => if f.offset = o then match F f.type with
    | some ps => if ps.length = P.cellsOf f.type then (joinD P F total (o + P.cellsOf f.type) fs).map (ps ++ ·) else none
    | none => none
    else none
def deepT (P : Program) (kd : TypeId → Option RK) : Nat → TypeId → Option (List PD)
  | 0, _ => none
  | n + 1, t => match P.underlying t with
    | some .bool => some [.b]
    | some (.int k) => some [.i k]
    | some .string => some [.s]
    | some (.slice e) => match kd e with
      | some k => if deepT P kd n e = some (pdK k) ∧ P.cellsOf e = sz k then some [.sl k] else none
      | none => none
    | some (.struct fs) => joinD P (deepT P kd n) (P.cellsOf t) 0 fs.toList
    | _ => none
theorem shape_dec (k : RK) (cs : List CS) (h : cs.map cellD = pdK k) : ∃ x, enc k x = cs := by
  have hi : ∀ {kk : IntKind} {c : CS}, cellD c = .i kk → ∃ n, c = .v (.int kk n) := by
    intro kk c h
    cases c with
    | v x => cases x <;> simp [cellD] at h; exact ⟨_, by rw [h]⟩
    | s k ys => simp [cellD] at h
  have hb : ∀ {c : CS}, cellD c = .b → ∃ n, c = .v (.bool n) := by
    intro c h
    cases c with
    | v x => cases x <;> simp [cellD] at h; exact ⟨_, rfl⟩
    | s k ys => simp [cellD] at h
  have hs : ∀ {c : CS}, cellD c = .s → ∃ n, c = .v (.string n) := by
    intro c h
    cases c with
    | v x => cases x <;> simp [cellD] at h; exact ⟨_, rfl⟩
    | s k ys => simp [cellD] at h
  have hl : ∀ {kk : RK} {c : CS}, cellD c = .sl kk → ∃ ys, c = .s kk ys := by
    intro kk c h
    cases c with
    | v x => cases x <;> simp [cellD] at h
    | s k ys => simp [cellD] at h; subst h; exact ⟨_, rfl⟩
  cases k
  all_goals
    simp only [pdK, enc, zK, List.map_cons, List.map_nil, cellD] at h
    repeat (
      have h0 := List.map_eq_cons_iff.1 h
      clear h
      obtain ⟨_, cs, rfl, h1, h⟩ := h0
      first
      | (obtain ⟨_, rfl⟩ := hi h1)
      | (obtain ⟨_, rfl⟩ := hb h1)
      | (obtain ⟨_, rfl⟩ := hs h1)
      | (obtain ⟨_, rfl⟩ := hl h1)
      clear h1)
    obtain rfl := List.map_eq_nil_iff.1 h
    first | exact ⟨_, rfl⟩ | exact ⟨⟨_, _⟩, rfl⟩ | exact ⟨⟨_, _, _⟩, rfl⟩ | exact ⟨⟨_, _, _, _⟩, rfl⟩ | exact ⟨⟨_, _, _, _, _⟩, rfl⟩ | exact ⟨⟨_, _, _, _, _, _⟩, rfl⟩ | exact ⟨⟨_, _, _, _, _, _, _⟩, rfl⟩ | exact ⟨⟨_, _, _, _, _, _, _, _⟩, rfl⟩ | exact ⟨⟨_, _, _, _, _, _, _, _, _⟩, rfl⟩ | exact ⟨⟨_, _, _, _, _, _, _, _, _, _⟩, rfl⟩ | exact ⟨⟨_, _, _, _, _, _, _, _, _, _, _⟩, rfl⟩ | exact ⟨⟨_, _, _, _, _, _, _, _, _, _, _, _⟩, rfl⟩ | exact ⟨⟨_, _, _, _, _, _, _, _, _, _, _, _, _⟩, rfl⟩ | exact ⟨⟨_, _, _, _, _, _, _, _, _, _, _, _, _, _⟩, rfl⟩ | exact ⟨⟨_, _, _, _, _, _, _, _, _, _, _, _, _, _, _⟩, rfl⟩ | exact ⟨⟨_, _, _, _, _, _, _, _, _, _, _, _, _, _, _, _⟩, rfl⟩

section
variable {H : Type} {enc' : TypeId × Value → H} {P : Program} {w : World} {held : Bool} {kd : TypeId → Option RK}
/-- What is read, as cells: their shapes, what lies in memory, how much it is, in which range. -/
structure DeepOk (w : World) (ps : List PD) (cs : List Value) (n : Nat) (css : List CS) : Prop where
  shape : css.map cellD = ps
  len : css.length = cs.length
  cv : ∀ (j : Nat) (e : CS), css[j]? = some e → ∃ u, cs[j]? = some u ∧ CV (fun r => r < w.heap.size) w e u
  bulk : (css.map wC).sum + 1 ≤ n
  inC : ∀ e ∈ css, InC e
theorem joinD_ok {F : TypeId → Option (List PD)} {m total : Nat}
    (hF : ∀ t ps cs x, F t = some ps → DataW.trod enc' P w 0 (fun _ => true) held m t cs = some x → ∃ css, DeepOk w ps cs (Rows.uptoBulk x.1) css) {cs : List Value} (hl : cs.length = total) :
    ∀ (fs : List Field) (o : Nat) (ps : List PD) (xs : List (DataW H × List MemPlace)), joinD P F total o fs = some ps → xs.length = fs.length →
      (∀ (i : Nat) (f : Field), fs[i]? = some f → DataW.trod enc' P w 0 (fun _ => true) held m f.type ((cs.drop f.offset).take (P.cellsOf f.type)) = xs[i]?) → ∃ css, DeepOk w ps (cs.drop o) (Rows.uptoBulkAll (xs.map (·.1)) + 1) css
  | [], o, ps, xs, h, hxl, _ => by
    simp only [joinD] at h
    split at h
    · obtain rfl := Option.some.inj h
      rename_i e
      subst e
      have hd : cs.drop o = [] := by rw [← hl]; exact List.drop_length
      rw [hd]
      exact ⟨[], rfl, rfl, fun j e h => by simp at h, by simp, fun e h => by simp at h⟩
    · cases h
  | f :: fs, o, ps, [], h, hxl, hf => by simp at hxl
  | f :: fs, o, ps, y :: xs, h, hxl, hf => by
    simp only [joinD] at h
    split at h
    · rename_i e
      split at h
      · rename_i qs hq
        split at h
        · rename_i hn
          obtain ⟨rs, hr, rfl⟩ := Option.map_eq_some_iff.1 h
          have hy := hf 0 f rfl
          simp only [List.getElem?_cons_zero] at hy
          obtain ⟨c1, g1⟩ := hF _ _ _ _ hq hy
          rw [e] at g1
          obtain ⟨c2, g2⟩ := joinD_ok hF hl fs _ _ xs hr (by simpa using hxl) (fun i g hg => by simpa using hf (i + 1) g (by simpa using hg))
          have e3 : cs.drop o = (cs.drop o).take (P.cellsOf f.type) ++ cs.drop (o + P.cellsOf f.type) := by rw [← List.drop_drop, List.take_append_drop]
          have hc1 : c1.length = ((cs.drop o).take (P.cellsOf f.type)).length := g1.len
          refine ⟨c1 ++ c2, ?_, ?_, ?_, ?_, ?_⟩
          · rw [List.map_append, g1.shape, g2.shape]
          · rw [e3, List.length_append, List.length_append, hc1, g2.len]
          · intro j c hj
            rw [e3]
            by_cases hlt : j < c1.length
            · rw [List.getElem?_append_left hlt] at hj
              obtain ⟨u, h1, h2⟩ := g1.cv j c hj
              exact ⟨u, by rw [List.getElem?_append_left (by omega)]; exact h1, h2⟩
            · rw [List.getElem?_append_right (by omega)] at hj
              obtain ⟨u, h1, h2⟩ := g2.cv _ c hj
              exact ⟨u, by rw [List.getElem?_append_right (by omega), ← hc1]; exact h1, h2⟩
          · have b1 := g1.bulk
            have b2 := g2.bulk
            simp only [List.map_append, List.sum_append, List.map_cons, Rows.uptoBulkAll]
            omega
          · intro c hc
            rcases List.mem_append.1 hc with hc | hc
            · exact g1.inC c hc
            · exact g2.inC c hc
        · cases h
      · cases h
    · cases h
theorem sum_map_getD {α : Type} (f : α → Nat) (d : α) (g : Nat → Nat) : ∀ (xs : List α), (∀ i, i < xs.length → f (xs.getD i d) ≤ g i) → (xs.map f).sum ≤ ((List.range xs.length).map g).sum
  | [], _ => by simp
  | x :: xs, h => by
    have h0 := h 0 (by simp)
    have ih := sum_map_getD f d (fun i => g (i + 1)) xs (fun i hi => by simpa using h (i + 1) (by simpa using hi))
    simp only [List.map_cons, List.sum_cons, List.length_cons, List.range_succ_eq_map, List.map_map]
    have e : (List.range xs.length).map (g ∘ Nat.succ) = (List.range xs.length).map fun i => g (i + 1) := rfl
    rw [e]
    simp at h0
    omega
theorem bulkAll_range : ∀ (l : List (DataW H)), Rows.uptoBulkAll l = ((List.range l.length).map fun i => (l[i]?.map Rows.uptoBulk).getD 0).sum
  | [] => rfl
  | d :: l => by
    simp only [Rows.uptoBulkAll, List.length_cons, List.range_succ_eq_map, List.map_cons, List.sum_cons, List.map_map]
    rw [bulkAll_range l]
    rfl
/-- A row of elements, each of which is read. -/
theorem deep_row {e : TypeId} {k : RK} {m : Nat} {a : Addr} {len : Nat} {elems : List (DataW H × List MemPlace)} (hIH : ∀ cs x, DataW.trod enc' P w 0 (fun _ => true) held m e cs = some x → ∃ css, DeepOk w (pdK k) cs (Rows.uptoBulk x.1) css)
    (hc : P.cellsOf e = sz k) (hlen : elems.length = len) (hel : ∀ i, i < len → (w.cells? 0 (a.add (i * P.cellsOf e)) (P.cellsOf e)).bind (DataW.trod enc' P w 0 (fun _ => true) held m e) = elems[i]?) (hspot : a.spot = none) :
    ∃ xs : List (El k), xs.length = len ∧ (xs.map fun y => wt k y + 1).sum ≤ Rows.uptoBulkAll (elems.map (·.1)) ∧ (∀ i, i < len → InD k (xs.getD i (zK k))) ∧
      ∀ i j e, i < len → (enc k (xs.getD i (zK k)))[j]? = some e → ∃ v, w.cell? ⟨a.block, a.off + (i * sz k + j), none⟩ = some v ∧ CV (fun r => r < w.heap.size) w e v := by
  obtain ⟨blk, off, spot⟩ := a
  simp only at hspot
  subst hspot
  have one : ∀ i, i < len → ∃ x : El k, (wt k x + 1 ≤ ((elems.map (·.1))[i]?.map Rows.uptoBulk).getD 0 ∧ InD k x) ∧ ∀ j e, (enc k x)[j]? = some e → ∃ v, w.cell? ⟨blk, off + (i * sz k + j), none⟩ = some v ∧ CV (fun r => r < w.heap.size) w e v := by
    intro i hi
    have h1 := hel i hi
    rw [List.getElem?_eq_getElem (by omega)] at h1
    obtain ⟨cs, h2, h3⟩ := Option.bind_eq_some_iff.1 h1
    obtain ⟨css, g⟩ := hIH cs _ h3
    obtain ⟨x, hx⟩ := shape_dec k css g.shape
    obtain ⟨h5, h6⟩ := cells_get h2
    refine ⟨x, ⟨?_, fun c hc => g.inC c (hx ▸ hc)⟩, fun j c hj => ?_⟩
    · have := g.bulk
      rw [← hx, wt_enc] at this
      simpa [List.getElem?_map, List.getElem?_eq_getElem (show i < elems.length by omega)] using this
    · rw [hx] at hj
      obtain ⟨u, h7, h8⟩ := g.cv j c hj
      have hjl : j < P.cellsOf e := by have := (List.getElem?_eq_some_iff.1 h7).1; omega
      have h9 := h6 j hjl
      rw [add_none, add_none, h7, hc] at h9
      exact ⟨u, by rw [← h9, Nat.add_assoc], h8⟩
  obtain ⟨xs, hxl, hxs⟩ := build k _ len one
  refine ⟨xs, hxl, ?_, fun i hi => (hxs i hi).1.2, fun i j c hi hc => (hxs i hi).2 j c hc⟩
  rw [bulkAll_range]
  have := sum_map_getD (fun y => wt k y + 1) (zK k) (fun i => ((elems.map (·.1))[i]?.map Rows.uptoBulk).getD 0) xs (fun i hi => (hxs i (by omega)).1.1)
  rw [show (elems.map (·.1)).length = xs.length by simp [hlen, hxl]]
  exact this
theorem spot_of {e : TypeId} {k : RK} {m : Nat} {a : Addr} {y : DataW H × List MemPlace} (hc : P.cellsOf e = sz k) (h : (w.cells? 0 (a.add (0 * P.cellsOf e)) (P.cellsOf e)).bind (DataW.trod enc' P w 0 (fun _ => true) held m e) = some y) : a.spot = none := by
  obtain ⟨cs, h2, _⟩ := Option.bind_eq_some_iff.1 h
  obtain ⟨h5, h6⟩ := cells_get h2
  have hp := sz_pos k
  have h7 := h6 0 (by omega)
  rw [Nat.zero_mul, show a.add 0 = a by simp [Addr.add], show a.add 0 = a by simp [Addr.add]] at h7
  rw [List.getElem?_eq_getElem (by omega)] at h7
  unfold World.cell? at h7
  split at h7
  · split at h7
    · cases h7
    · rename_i hs
      cases e : a.spot with
      | none => rfl
      | some q => rw [e] at hs; simp at hs
  · cases h7
theorem deep_ok : ∀ (n m : Nat) (t : TypeId) (ps : List PD) (cs : List Value) (x : DataW H × List MemPlace), deepT P kd n t = some ps →
    DataW.trod enc' P w 0 (fun _ => true) held m t cs = some x → ∃ css, DeepOk w ps cs (Rows.uptoBulk x.1) css
  | 0, _, _, _, _, _, h, _ => by cases h
  | n + 1, m, t, ps, cs, x, h, hx => by
    simp only [deepT] at h
    split at h
    · rename_i ht
      obtain rfl := Option.some.inj h
      obtain ⟨b, rfl, _⟩ := DataW.trod_bool ht hx
      exact ⟨[.v (.bool b)], rfl, rfl, fun j e he => by cases j <;> simp at he; subst he; exact ⟨_, rfl, .v _⟩, by have := bulk_pos x.1; simp [wC]; omega, fun e he => by simp at he; subst he; exact .bool b⟩
    · rename_i k ht
      obtain rfl := Option.some.inj h
      obtain ⟨b, rfl, _, hw⟩ := DataW.trod_int ht hx
      exact ⟨[.v (.int k b)], rfl, rfl, fun j e he => by cases j <;> simp at he; subst he; exact ⟨_, rfl, .v _⟩, by have := bulk_pos x.1; simp [wC]; omega, fun e he => by simp at he; subst he; exact .int k b hw⟩
    · rename_i ht
      obtain rfl := Option.some.inj h
      obtain ⟨b, rfl, _, hw⟩ := DataW.trod_string ht hx
      exact ⟨[.v (.string b)], rfl, rfl, fun j e he => by cases j <;> simp at he; subst he; exact ⟨_, rfl, .v _⟩, by have := bulk_pos x.1; simp [wC]; omega, fun e he => by simp at he; subst he; exact .str b hw⟩
    · rename_i e ht
      split at h
      · rename_i k hkd
        split at h
        · rename_i hk
          obtain ⟨hk, hc⟩ := hk
          obtain rfl := Option.some.inj h
          rcases DataW.trod_slice ht hx with ⟨hcs, hx'⟩ | ⟨a', len', cap', elems, rest, m', _, hcs, hx', _, hl, hm, hlen, hel, hsp, _⟩
          · subst hcs
            exact ⟨[.s k []], rfl, rfl, fun j e he => by cases j <;> simp at he; subst he; exact ⟨_, rfl, .s0 _ _⟩, by have := bulk_pos x.1; simp [wC]; omega, fun e he => by simp at he; subst he; exact .s k [] fun i j e hi => absurd hi (Nat.not_lt_zero i)⟩
          · subst hcs
            have hbulk : Rows.uptoBulk x.1 = Rows.uptoBulkAll (elems.map (·.1)) + Rows.uptoBulkAll (rest.map (·.1)) + 1 := by rw [hx']; rfl
            by_cases hcap : cap' = 0
            · subst hcap
              obtain rfl : len' = 0 := by omega
              exact ⟨[.s k []], rfl, rfl, fun j e he => by cases j <;> simp at he; subst he; exact ⟨_, rfl, .s0 _ _⟩, by have := bulk_pos x.1; simp [wC]; omega, fun e he => by simp at he; subst he; exact .s k [] fun i j e hi => absurd hi (Nat.not_lt_zero i)⟩
            · have hspot : a'.spot = none := by
                by_cases h0 : len' = 0
                · subst h0
                  obtain ⟨r1, r2⟩ := hsp rfl
                  have := r2 0 (by omega)
                  rw [List.getElem?_eq_getElem (by omega)] at this
                  exact spot_of (k := k) hc this
                · have := hel 0 (by omega)
                  rw [List.getElem?_eq_getElem (by omega)] at this
                  exact spot_of (k := k) hc this
              obtain ⟨xs, hxl, hb, hin, hcell⟩ := deep_row (k := k) (fun cs x hx => deep_ok n m' e _ cs x hk hx) hc hlen hel hspot
              obtain ⟨blk, off, spot⟩ := a'
              simp only at hspot hcell
              subst hspot
              refine ⟨[.s k xs], rfl, rfl, ?_, ?_, ?_⟩
              · intro j c hj
                cases j with
                | succ j => simp at hj
                | zero =>
                  simp at hj
                  subst hj
                  refine ⟨_, rfl, ?_⟩
                  rw [← hxl]
                  refine .s k xs blk off cap' (fun i j => (w.cell? ⟨blk, off + (i * sz k + j), none⟩).getD undef) (fun hne => ?_) (by omega) (fun i j e hi he => ?_) (fun i j e hi he => ?_)
                  · have hpos : 0 < xs.length := List.length_pos_iff.2 hne
                    have hsz := sz_pos k
                    obtain ⟨v, h3, _⟩ := hcell 0 0 _ (by omega) (List.getElem?_eq_getElem (by rw [enc_length]; exact hsz))
                    exact cell_lt h3
                  · obtain ⟨v, h3, _⟩ := hcell i j e (by omega) he
                    rw [h3]; rfl
                  · obtain ⟨v, h3, h4⟩ := hcell i j e (by omega) he
                    simp only [h3, Option.getD_some]
                    exact h4
              · simp [wC]; omega
              · intro c hc
                simp at hc
                subst hc
                exact .s k xs fun i j e hi he => hin i (by omega) e (List.mem_of_getElem? he)
        · cases h
      · cases h
    · rename_i fs ht
      obtain ⟨xs, m', e, hx', hl, hlen, hf⟩ := DataW.trod_struct ht hx
      obtain ⟨css, g⟩ := joinD_ok (m := m') (fun t ps cs x => deep_ok n m' t ps cs x) hl fs.toList 0 ps xs h (by simpa using hlen) (fun i f hi => hf i f (by simpa using hi))
      refine ⟨css, g.shape, by simpa using g.len, by simpa using g.cv, ?_, g.inC⟩
      have := g.bulk
      rw [hx']
      simpa [Rows.uptoBulk] using this
    · cases h
theorem cv_slice {k : RK} {ys : List (El k)} {v : Value} (h : CV (fun r => r < w.heap.size) w (.s k ys) v) : ∃ q, Opn w q k ys ∧ ∀ m b, m b = q → V m (.slF b) v := by
  cases h with
  | s _ _ blk off c f hi hc hl hf =>
    refine ⟨⟨blk, off, sz k, c, ys.length⟩, ⟨rfl, rfl, hc, fun i j e h1 h2 => ⟨_, hl i j e h1 h2, hf i j e h1 h2⟩, hi⟩, fun m b hm => ?_⟩
    have := V.slF (m := m) b c (by rw [hm]; exact hc) (by rw [hm]; exact Nat.le_refl _)
    rw [hm] at this
    exact this
  | s0 _ a => exact ⟨⟨0, 0, sz k, 0, 0⟩, ⟨rfl, rfl, Nat.le_refl _, fun i j e hi => absurd hi (Nat.not_lt_zero i), fun h => absurd rfl h⟩, fun m b hm => .slF0 b a (by rw [hm])⟩
/-- A slice whose elements may hold slices. -/
theorem open_drow {n : Nat} {t e : TypeId} (k : RK) {v : Value} {d : DataW H} {p : List MemPlace} {r : Reach} (ht : P.underlying t = some (.slice e)) (hk : deepT P kd (n + 1) t = some [.sl k])
    {b0 : Nat} (hv : Value.okWide P w r b0 t v) (h : DataW.Trod enc' P w 0 (fun _ => true) held t v d p) :
    ∃ (q : Place) (xs : List (El k)), Opn w q k xs ∧ (∀ m b, m b = q → V m (.slF b) v) ∧ (xs.map fun y => wt k y + 1).sum + 1 ≤ Rows.uptoBulk d ∧ ∀ x ∈ xs, InD k x := by
  obtain ⟨a, len, cap, rfl⟩ := okWide_slice ht hv
  obtain ⟨fuel, hf⟩ := h
  obtain ⟨css, g⟩ := deep_ok (n + 1) fuel t _ _ _ hk hf
  have hs := g.shape
  obtain ⟨c, r, rfl, h1, h2⟩ := List.map_eq_cons_iff.1 hs
  obtain rfl := List.map_eq_nil_iff.1 h2
  cases c with
  | v y => cases y <;> simp [cellD] at h1
  | s k' xs =>
    simp [cellD] at h1
    subst h1
    obtain ⟨u, h3, h4⟩ := g.cv 0 _ rfl
    simp [Value.cells] at h3
    subst h3
    obtain ⟨q, g1, g2⟩ := cv_slice h4
    refine ⟨q, xs, g1, g2, by simpa [wC] using g.bulk, fun x hx => ?_⟩
    have := g.inC (.s k' xs) (by simp)
    obtain ⟨i, hi, rfl⟩ := List.getElem_of_mem hx
    intro e he
    cases this with
    | s _ _ hh =>
      obtain ⟨j, hj, rfl⟩ := List.getElem_of_mem he
      refine hh i j _ hi ?_
      rw [show xs.getD i (zK k') = xs[i] by simp [List.getD, hi]]
      exact List.getElem?_eq_getElem hj
/-- A struct that may hold slices. -/
theorem open_deep {n : Nat} {t : TypeId} (k : RK) {v : Value} {d : DataW H} {p : List MemPlace} {r : Reach} (hk : deepT P kd n t = some (pdK k)) (hs : (match P.underlying t with | some (.struct _) => true | _ => false) = true)
    {b0 : Nat} (hv : Value.okWide P w r b0 t v) (h : DataW.Trod enc' P w 0 (fun _ => true) held t v d p) :
    ∃ (x : El k) (cs : List Value), v = .agg cs.toArray ∧ cs.length = sz k ∧ (∀ (j : Nat) (e : CS), (enc k x)[j]? = some e → ∃ u, cs[j]? = some u ∧ CV (fun r => r < w.heap.size) w e u) ∧ wt k x + 1 ≤ Rows.uptoBulk d ∧ InD k x := by
  obtain ⟨cs, rfl⟩ : ∃ cs, v = .agg cs := by
    unfold Value.okWide at hv
    cases hu : P.underlying t with
    | none => rw [hu] at hs; cases hs
    | some u => cases u <;> rw [hu] at hs hv <;> first | (cases hs; done) | exact hv.imp fun _ h => h.1
  obtain ⟨fuel, hf⟩ := h
  obtain ⟨css, g⟩ := deep_ok n fuel t _ _ _ hk hf
  obtain ⟨x, hx⟩ := shape_dec k css g.shape
  refine ⟨x, cs.toList, by simp, ?_, ?_, ?_, ?_⟩
  · have := g.len
    rw [← hx, enc_length] at this
    simpa [Value.cells] using this.symm
  · intro j e he
    rw [hx] at he
    simpa [Value.cells] using g.cv j e he
  · have := g.bulk
    rw [← hx, wt_enc] at this
    exact this
  · intro e he
    exact g.inC e (hx ▸ he)
/-- A struct's value, cell by cell. -/
theorem deep_V {m : Nat → Place} {cs : List Value} {l : List SV} (hl : cs.length = l.length) (h : ∀ (j : Nat) (s : SV), l[j]? = some s → ∃ u, cs[j]? = some u ∧ V m s u) : V m (.agg l) (.agg cs.toArray) := by
  refine .agg _ _ ?_
  have : ∀ (l : List SV) (cs : List Value), cs.length = l.length → (∀ (j : Nat) (s : SV), l[j]? = some s → ∃ u, cs[j]? = some u ∧ V m s u) → Vs m l cs := by
    intro l
    induction l with
    | nil => intro cs hl _; rw [List.length_eq_zero_iff.1 hl]; exact .nil
    | cons s l ih =>
      intro cs hl h
      cases cs with
      | nil => simp at hl
      | cons c cs =>
        obtain ⟨u, h1, h2⟩ := h 0 s rfl
        obtain rfl : c = u := by simpa using h1
        exact .cons _ _ _ _ h2 (ih cs (by simpa using hl) fun j s hj => by simpa using h (j + 1) s (by simpa using hj))
  simpa using this l cs hl h
theorem cv_v {w : World} {x u : Value} (h : CV (fun r => r < w.heap.size) w (.v x) u) (m : Nat → Place) : V m (.val x) u := by
  cases h; exact .val _
theorem InC.i64 {n : Int} (h : InC (.v (.int .i64 n))) : -9223372036854775808 ≤ n ∧ n ≤ 9223372036854775807 := by
  cases h with
  | int _ _ h => exact wf64 h
theorem InC.u8 {n : Int} (h : InC (.v (.int .u8 n))) : 0 ≤ n ∧ n < 256 := by
  cases h with
  | int _ _ h =>
    simp [Lit.wf, IntKind.min, IntKind.max, IntKind.signed, IntKind.bits] at h
    omega
theorem InC.row {k : RK} {ys : List (El k)} (h : InC (.s k ys)) : ∀ y ∈ ys, InD k y := by
  intro y hy e he
  cases h with
  | s _ _ hh =>
    obtain ⟨i, hi, rfl⟩ := List.getElem_of_mem hy
    obtain ⟨j, hj, rfl⟩ := List.getElem_of_mem he
    refine hh i j _ hi ?_
    rw [show ys.getD i (zK k) = ys[i] by simp [List.getD, hi]]
    exact List.getElem?_eq_getElem hj
end

/-- The opened rows as blocks 0, 1, .. -/
def rowsH (l : List (Place × VB)) (b : Nat) : Option VB := (l[b]?).map (·.2)
def rowsM (l : List (Place × VB)) (b : Nat) : Place := ((l[b]?).map (·.1)).getD ⟨0, 0, 0, 0, 0⟩
theorem law_calls {P : Program} {f : FuncId} {ks : List (Option RK)} {sp : Spec} (g : GOk P f (lift ks sp)) (args : List SV) (l : List (Place × VB)) (vals : Array Value) (W : World)
    (hl : ∀ q ∈ l, ∃ k xs, q.2 = .row false k xs ∧ Opn W q.1 k xs) (hn : l.length ≤ 1000)
    (hV : Vs (rowsM l) args vals.toList) (hi : ∀ b ∈ idsL args, b < l.length) (hs : Holds (lift ks sp args (rowsH l) 1000) (.val (.bool true)) []) :
    Calls P f vals W fun e W' => e = .returned (.bool true) ∧ Below W.heap.size W W' := by
  have row : ∀ b vb, rowsH l b = some vb → ∃ k xs, vb = .row false k xs ∧ Opn W (rowsM l b) k xs := by
    intro b vb hb
    unfold rowsH at hb
    obtain ⟨q, hq, rfl⟩ := Option.map_eq_some_iff.1 hb
    obtain ⟨k, xs, h1, h2⟩ := hl q (List.mem_of_getElem? hq)
    exact ⟨k, xs, h1, by unfold rowsM; rw [hq]; exact h2⟩
  have notOwn : ∀ b vb, rowsH l b = some vb → ¬ Own (rowsM l b) vb := by
    intro b vb hb ho
    obtain ⟨k, xs, rfl, _⟩ := row b vb hb
    exact ho
  refine (g.calls args (rowsH l) 1000 _ [] hs (rowsM l) (fun r => r < W.heap.size) W vals ?_ ?_ ?_ hV).mono ?_
  · refine ⟨?_, fun b b' vb vb' h _ o => absurd o (notOwn b vb h), fun b vb h o => absurd o (notOwn b vb h), fun r h => h⟩
    intro b vb hb
    obtain ⟨k, xs, rfl, h⟩ := row b vb hb
    exact h.hold _
  · rintro b hb (h | ⟨b', cs, h, _⟩)
    · have hlt : b < l.length := by
        unfold rowsH at h
        rcases Nat.lt_or_ge b l.length with h' | h'
        · exact h'
        · rw [List.getElem?_eq_none h'] at h; exact absurd rfl h
      rw [inRange_iff] at hb
      omega
    · obtain ⟨k, xs, h1, _⟩ := row b' _ h
      cases h1
  · intro b hb
    have := hi b hb
    cases e : inRange 1000 b with
    | false => rfl
    | true => rw [inRange_iff] at e; omega
  · rintro e W' ⟨m', Imm', v, rfl, hv, st⟩
    refine ⟨by cases hv; rfl, st.calm.os, st.calm.tape, st.calm.output, st.calm.size, fun r hr => st.keep r hr ?_⟩
    rintro (h | ⟨b, vb, h, o, _⟩)
    · omega
    · exact notOwn b vb h o
end Go.Proofs.Ythbmllekbbfobaa.Sx

