import Derived.Test.YtncdakkigkmfjaaSxQ
import Derived.Laws.StructEq
import Derived.Laws.BytesArg
/-! Arithmetic, comparisons, conversions, fields, indexes, cuts. -/
namespace Go.Proofs.Ytncdakkigkmfjaa.Sx
open Go
set_option linter.unusedVariables false
set_option linter.unusedSimpArgs false

variable {P : Program} {T : TT} {m : Nat → Place} {Imm : Nat → Prop} {H : VH} {w : World} {key : Nat} {s : SV} {u : List (Nat × Option VB)}

theorem does_iop {op : BinOp} {t : TypeId} {k : IntKind} {a b : Int} {ox oy : Operand} (hR : Rel m Imm H w) (h : Holds (iop op k a b) s u) :
    Does P (do eqGuard op t ox oy (.int k a) (.int k b); binOp op t (.int k a) (.int k b)) m Imm H w key s u := by
  cases op <;> simp only [iop] at h <;> first
    | (obtain ⟨rfl, rfl⟩ := h.ok; refine .same hR ?_ (.val _); simp [eqGuard, binOp, Op.intArith, Op.intBits, Op.intCmp, IntKind.wrap])
    | (obtain ⟨hc, rfl, rfl⟩ := h.vc; refine .same hR ?_ (.val _); simp [eqGuard, binOp, Op.intDiv, Op.shift, hc, IntKind.wrap, Int.not_lt.2])
    | (obtain ⟨hc, rfl, rfl⟩ := h.vc; refine .same hR ?_ (.val _); have := Int.not_lt.2 hc; simp [eqGuard, binOp, Op.intDiv, Op.shift, this, IntKind.wrap])
    | skip

theorem does_sop {op : BinOp} {t : TypeId} {a b : ByteArray} {ox oy : Operand} (hR : Rel m Imm H w) (h : Holds (sop op a b) s u) :
    Does P (do eqGuard op t ox oy (.string a) (.string b); binOp op t (.string a) (.string b)) m Imm H w key s u := by
  cases op <;> simp only [sop] at h <;> first
    | exact h.fail.elim
    | (obtain ⟨rfl, rfl⟩ := h.ok; refine .same hR ?_ (.val _); simp [eqGuard, binOp, Op.stringOp])
    | (obtain ⟨hc, rfl, rfl⟩ := h.vc; refine .same hR ?_ (.val _); have : ¬ IntKind.i64.max < ((a.size + b.size : Nat) : Int) := (by simp [IntKind.max, IntKind.signed, IntKind.bits]; omega); simp only [eqGuard, binOp, Op.stringOp]; simp; omega)

theorem eqC_ok {t : TypeId} {ti : TI} (hA : Agree P t ti) {x y : SV} {vx vy : Value} {r : Bool} (hx : V m x vx) (hy : V m y vy) (h : eqC ti.d x y = some r) (d : Nat) : (Op.equalIn (d + 1) t vx vy).run P w = .ok r w ∧ isAggT ti = false := by
  have hd := hA.desc
  unfold eqC at h
  split at h
  · cases hx; cases hy
    split at h
    · rename_i e
      rw [e] at hd
      split at h
      · rename_i hk; subst hk; obtain rfl := Option.some.inj h
        exact ⟨run_equalIn_int w d t _ _ _ _ hd, by unfold isAggT; rw [e]⟩
      · cases h
    · cases h
  · cases hx; cases hy
    split at h
    · rename_i e
      rw [e] at hd
      obtain rfl := Option.some.inj h
      exact ⟨run_equalIn_bool' w d t _ _ hd, by unfold isAggT; rw [e]⟩
    · cases h
  · cases hx; cases hy
    split at h
    · rename_i e
      rw [e] at hd
      obtain rfl := Option.some.inj h
      exact ⟨run_equalIn_string w d t _ _ hd, by unfold isAggT; rw [e]⟩
    · cases h
  · cases h

/-- '==' of plain cells, one behind the other. -/
theorem eqFields_ok (hT : TOk P T) {xs ys : Array Value} {d : Nat} (hd : 0 < d) : ∀ {fl : List Field} {j : Nat} {a b : List SV} {r : Bool}, (∀ f ∈ fl, f.name ≠ "_") → 
    Vs m a (xs.toList.drop j) → Vs m b (ys.toList.drop j) → eqF T j (fl.map fun f => (f.offset, f.type)) a b = some r → (Op.eqFields d xs ys fl).run P w = .ok r w := by
  obtain ⟨d, rfl⟩ : ∃ e, d = e + 1 := ⟨d - 1, by omega⟩
  intro fl
  induction fl with
  | nil =>
    intro j a b r _ h1 h2 h3
    cases a <;> cases b <;> simp [eqF] at h3
    subst h3; simp [Op.eqFields]
  | cons f fl ih =>
    intro j a b r hn h1 h2 h3
    cases a with
    | nil => simp [eqF] at h3
    | cons x a =>
      cases b with
      | nil => simp [eqF] at h3
      | cons y b =>
        simp only [List.map_cons, eqF] at h3
        cases hj : Nat.beq f.offset j with
        | false => rw [hj] at h3; cases h3
        | true =>
          rw [hj] at h3
          have hj' := Nat.eq_of_beq_eq_true hj
          subst hj'
          simp only [cond_true] at h3
          split at h3
          · rename_i ti hti
            split at h3
            · rename_i r1 r2 e1 e2
              obtain rfl := Option.some.inj h3
              obtain ⟨vx, hx0, hvx⟩ := h1.get (i := 0) (by rfl)
              obtain ⟨vy, hy0, hvy⟩ := h2.get (i := 0) (by rfl)
              rw [List.getElem?_drop, Nat.add_zero] at hx0 hy0
              have t1 : Vs m a (xs.toList.drop (f.offset + 1)) := by have := h1.drop 1; simpa using this
              have t2 : Vs m b (ys.toList.drop (f.offset + 1)) := by have := h2.drop 1; simpa using this
              have hrest := ih (fun g hg => hn g (List.mem_cons_of_mem _ hg)) t1 t2 e2
              have hname := hn f List.mem_cons_self
              obtain ⟨he, hag⟩ := eqC_ok (w := w) (hT _ ti hti) hvx hvy e1 d
              have px : ∀ (arr : Array Value) (v : Value), arr.toList[f.offset]? = some v → (Go.part f.type arr f.offset).run P w = .ok v w := by
                intro arr v hv
                obtain ⟨_, _, hg⟩ := (hT _ ti hti).desc.agg
                have hv' : arr[f.offset]? = some v := by simpa using hv
                simp [Go.part, hg w, hag, hv']
              simp only [Op.eqFields, hname, ne_eq, not_false_eq_true, if_true, Sem.run_bind, px xs vx hx0, px ys vy hy0, Result.andThen_ok, he]
              cases r1
              · simp
              · simpa using hrest
            · cases h3
          · cases h3

theorem does_shift {op : BinOp} (ho : op = .shl ∨ op = .shr) {t : TypeId} {k k' : IntKind} {a b : Int} {ox oy : Operand} (hR : Rel m Imm H w) (h : Holds (iop op k a b) s u) :
    Does P (do eqGuard op t ox oy (.int k a) (.int k' b); binOp op t (.int k a) (.int k' b)) m Imm H w key s u := by
  rcases ho with rfl | rfl <;> simp only [iop] at h <;> (obtain ⟨hc, rfl, rfl⟩ := h.vc; refine .same hR ?_ (.val _); have := Int.not_lt.2 hc; simp [eqGuard, binOp, Op.shift, this, IntKind.wrap])
theorem nilP_ok {x : SV} {v : Value} {b : Bool} (hx : V m x v) (h : nilP x = some b) : ∃ a, v = .pointer a ∧ a.isNone = b := by
  unfold nilP at h
  split at h
  · cases hx; cases h; exact ⟨_, rfl, rfl⟩
  · cases hx; cases h; exact ⟨_, rfl, rfl⟩
  · cases hx; cases h; exact ⟨_, rfl, rfl⟩
  · cases h
theorem run_equalIn_ptr {t e : TypeId} {a b : Option Addr} {r : Bool} (hu : P.underlying t = some (.pointer e)) (hab : (a.isNone = true ∧ b.isNone = r) ∨ (a.isNone = false ∧ b.isNone = true ∧ r = false)) (d : Nat) :
    (Op.equalIn (d + 1) t (.pointer a) (.pointer b)).run P w = .ok r w := by
  rcases hab with ⟨h1, h2⟩ | ⟨h1, h2, rfl⟩
  · cases a with
    | none => simp only [Op.equalIn, Sem.run_bind, run_underlying hu, Result.andThen_ok, Sem.run_pure, h2]
    | some _ => simp at h1
  · cases a with
    | none => simp at h1
    | some _ =>
      cases b with
      | none => simp only [Op.equalIn, Sem.run_bind, run_underlying hu, Result.andThen_ok, Sem.run_pure]
      | some _ => simp at h2
theorem does_eqR {op : BinOp} {t e : TypeId} {a b : Option Addr} {r : Bool} {ox oy : Operand} (hR : Rel m Imm H w) (hu : P.underlying t = some (.pointer e)) (hab : (a.isNone = true ∧ b.isNone = r) ∨ (a.isNone = false ∧ b.isNone = true ∧ r = false)) (h : Holds (eqR op r) s u) :
    Does P (do eqGuard op t ox oy (.pointer a) (.pointer b); binOp op t (.pointer a) (.pointer b)) m Imm H w key s u := by
  have he : (Op.equal t (.pointer a) (.pointer b)).run P w = .ok r w := by
    exact run_equalIn_ptr hu hab 9999
  cases op <;> simp only [eqR] at h <;> first
    | exact h.fail.elim
    | (obtain ⟨rfl, rfl⟩ := h.ok; refine .same hR ?_ (.val _); simp [eqGuard, binOp, he])
theorem does_bin (hT : TOk P T) {op : BinOp} {t : TypeId} {x y : SV} {vx vy : Value} {ox oy : Operand} (hR : Rel m Imm H w) (hx : V m x vx) (hy : V m y vy) (h : Holds (evBin T op t x y) s u) :
    Does P (do eqGuard op t ox oy vx vy; binOp op t vx vy) m Imm H w key s u := by
  unfold evBin at h
  split at h
  · cases hx; cases hy
    have keep : ∀ {op : BinOp} {k k' : IntKind} {a b : Int}, Holds (if k = k' then iop op k a b else .fail "binOp: kinds") s u → Does P (do eqGuard op t ox oy (.int k a) (.int k' b); binOp op t (.int k a) (.int k' b)) m Imm H w key s u := by
      intro op k k' a b h
      split at h
      · rename_i hk; subst hk; exact does_iop hR h
      · exact h.fail.elim
    cases op <;> first
      | exact does_shift (.inl rfl) hR h
      | exact does_shift (.inr rfl) hR h
      | exact keep h
  · cases hx; cases hy; exact does_sop hR h
  · cases hx; cases hy
    split at h
    · rename_i hti
      have hd : P.underlying t = some .bool := (hT t _ hti).desc
      obtain ⟨rfl, rfl⟩ := h.ok; refine .same hR ?_ (.val _)
      simp [eqGuard, binOp, Op.equal, Op.maxDepth, run_equalIn_bool' w 9999 t _ _ hd]
    · rename_i hti
      have hd : P.underlying t = some .bool := (hT t _ hti).desc
      obtain ⟨rfl, rfl⟩ := h.ok; refine .same hR ?_ (.val _)
      simp [eqGuard, binOp, Op.equal, Op.maxDepth, run_equalIn_bool' w 9999 t _ _ hd]
    · exact h.fail.elim
  · rename_i a b
    cases hx with
    | agg _ xs hxs =>
    cases hy with
    | agg _ ys hys =>
    split at h
    · rename_i fs sz' by' z rk hti
      obtain ⟨⟨fields, hu, hf, hall⟩, hst, heq⟩ := (hT t _ hti).desc
      have hfo : P.fieldsOf t = fields := by simp [Program.fieldsOf, hu]
      have run : ∀ r, eqF T 0 fs a b = some r → (Op.equalIn 10000 t (.agg xs) (.agg ys)).run P w = .ok r w := by
        intro r hr
        rw [run_equalIn_agg w 9999 t xs ys (by rw [hfo]; exact hu) hst, hfo]
        refine eqFields_ok (m := m) (j := 0) hT (by omega) (fun f hf => (hall f hf).1) (by simpa using hxs) (by simpa using hys) ?_
        rw [hf]; exact hr
      split at h
      · rename_i r hr
        obtain ⟨rfl, rfl⟩ := h.ok; refine .same hR ?_ (.val _)
        rw [Sem.run_bind, run_eqGuard_agg w _ t ox oy xs ys heq, Result.andThen_ok, run_eql_struct, run r hr]; rfl
      · rename_i r hr
        obtain ⟨rfl, rfl⟩ := h.ok; refine .same hR ?_ (.val _)
        rw [Sem.run_bind, run_eqGuard_agg w _ t ox oy xs ys heq, Result.andThen_ok, run_neq_struct, run r hr]; rfl
      · exact h.fail.elim
    · exact h.fail.elim
  · split at h
    · rename_i hti
      obtain ⟨e, hu⟩ := (hT t _ hti).desc
      split at h
      · rename_i b h1 h2
        obtain ⟨a1, rfl, e1⟩ := nilP_ok hx h1
        obtain ⟨a2, rfl, e2⟩ := nilP_ok hy h2
        exact does_eqR hR hu (.inl ⟨e1, e2⟩) h
      · rename_i h1 h2
        obtain ⟨a1, rfl, e1⟩ := nilP_ok hx h1
        obtain ⟨a2, rfl, e2⟩ := nilP_ok hy h2
        exact does_eqR hR hu (.inr ⟨e1, e2, rfl⟩) h
      · exact h.fail.elim
    · exact h.fail.elim

theorem does_un {op : UnOp} {x : SV} {vx : Value} (hR : Rel m Imm H w) (hx : V m x vx) (h : Holds (evUn op x) s u) : Does P (Op.unary op vx) m Imm H w key s u := by
  unfold evUn at h
  split at h
  · cases hx; obtain ⟨rfl, rfl⟩ := h.ok; exact .same hR (by simp [Op.unary, Op.intArith]) (.val _)
  · cases hx; obtain ⟨rfl, rfl⟩ := h.ok; exact .same hR (by simp [Op.unary]) (.val _)
  · exact h.fail.elim

/-- What a slice shows, in memory. -/
theorem slice_read (hR : Rel m Imm H w) {x : SV} {v : Value} {k : RK} {ys : List (El k)} (hx : V m x v) (h : sliceOf H x = some ⟨k, ys⟩) :
    ∃ (a : Option Addr) (c : Nat), v = .slice a ys.length c ∧ ys.length ≤ c ∧ (ys ≠ [] → ∃ blk off, a = some ⟨blk, off, none⟩ ∧ Reads Imm w ⟨blk, off, sz k, c, ys.length⟩ k ys) := by
  unfold sliceOf at h
  split at h
  · rename_i b
    split at h
    · rename_i own k' xs hb
      obtain ⟨rfl, h⟩ := Sigma.mk.inj (Option.some.inj h)
      obtain rfl := eq_of_heq h
      obtain ⟨p1, p2, p3, p4, _⟩ := hR.hold b _ hb
      cases hx with
      | slF _ c h1 h2 => exact ⟨_, c, by rw [p2], by omega, fun _ => ⟨_, _, rfl, p4⟩⟩
      | slF0 _ h1 =>
        have : xs = [] := List.length_eq_zero_iff.1 (by omega)
        subst this
        exact ⟨none, 0, rfl, Nat.le_refl _, fun h => absurd rfl h⟩
    · cases h
  · rename_i b i n
    split at h
    · rename_i own k' xs hb
      obtain ⟨rfl, h⟩ := Sigma.mk.inj (Option.some.inj h)
      obtain rfl := eq_of_heq h
      obtain ⟨p1, p2, p3, p4, _⟩ := hR.hold b _ hb
      cases hx with
      | slP _ _ _ c h1 h2 h3 =>
        have hl : ((xs.drop i).take n).length = n := by simp; omega
        refine ⟨_, c, by rw [hl], by omega, fun _ => ⟨_, _, rfl, ?_⟩⟩
        intro i' j e hi' he
        rw [hl] at hi'
        have get : ((xs.drop i).take n).getD i' (zK k') = xs.getD (i + i') (zK k') := by
          simp only [List.getD, List.getElem?_take, if_pos hi', List.getElem?_drop]
        rw [get] at he
        obtain ⟨v, h7, h8⟩ := p4 (i + i') j e (by omega) he
        refine ⟨v, ?_, h8⟩
        rw [← h7]
        show w.cell? ⟨(m b).blk, (m b).off + i * (m b).sz + (i' * sz k' + j), none⟩ = _
        rw [p1, Nat.add_mul]
        congr 2
        omega
      | slP0 _ _ a => exact ⟨a.map fun p => ⟨p.1, p.2, none⟩, 0, by simp, by simp, fun h => by simp at h⟩
    · cases h
  · cases h

/-- The cells of a slice's elements, one behind the other. -/
theorem slice_cells {a : Option Addr} {c : Nat} {k : RK} {ys : List (El k)} (h : ys ≠ [] → ∃ blk off, a = some ⟨blk, off, none⟩ ∧ Reads Imm w ⟨blk, off, sz k, c, ys.length⟩ k ys) :
    ∃ lst : List Value, lst.length = ys.length * sz k ∧ (∀ ad, a = some ad → ∀ (j : Nat) (v : Value), lst[j]? = some v → w.cell? (ad.add j) = some v) ∧ (a = none → lst = []) ∧
      ∀ (j : Nat) (e : CS), (ys.flatMap (enc k))[j]? = some e → ∃ v, lst[j]? = some v ∧ CV Imm w e v := by
  by_cases hy : ys = []
  · subst hy; exact ⟨[], by simp, by simp, by simp, by simp⟩
  · obtain ⟨blk, off, rfl, hr⟩ := h hy
    obtain ⟨lst, l1, l2, l3⟩ := row_cells (Imm := Imm) (w := w) (p := ⟨blk, off, sz k, c, ys.length⟩) (k := k) (xs := ys) (o := off) (fun i j e h1 h2 => hr i j e h1 h2)
    exact ⟨lst, l1, fun ad h j v hv => by obtain rfl := Option.some.inj h; rw [Addr.add_mid]; exact l2 j v hv, by simp, l3⟩
theorem enc_flat_u8 (xs : List Int) : (xs.flatMap (enc .u8)) = xs.map fun n => CS.v (.int .u8 n) := by
  induction xs with
  | nil => rfl
  | cons x xs ih => rw [List.flatMap_cons, ih]; rfl
theorem bytesStr_eq (xs : List Int) : bytesStr xs = xs.foldl (fun r n => r.push (UInt8.ofNat n.toNat)) ByteArray.empty := by
  have key : ∀ (l : List Int) (r : ByteArray), l.foldl (fun r n => r.push (UInt8.ofNat n.toNat)) r = ⟨(r.data.toList ++ l.map fun n => UInt8.ofNat n.toNat).toArray⟩ := by
    intro l
    induction l with
    | nil => intro r; simp
    | cons x l ih => intro r; rw [List.foldl_cons, ih]; simp [ByteArray.push]
  rw [key]
  simp [bytesStr, ByteArray.empty, ByteArray.emptyWithCapacity]; rfl
theorem does_conv (hT : TOk P T) {src dst : TypeId} {x : SV} {vx : Value} (hR : Rel m Imm H w) (hx : V m x vx) (h : Holds (evConv T src dst x H key) s u) : Does P (convert src dst vx) m Imm H w key s u := by
  unfold evConv at h
  split at h
  · rename_i ti _ _ _ _ _ _ hs hd
    obtain ⟨rfl, rfl⟩ := h.ok
    cases hx
    obtain ⟨d, hu, _⟩ := (hT src _ hs).desc.agg
    have hud : P.underlying dst = some (.int _) := (hT dst _ hd).desc
    exact .same hR (by simp [convert, run_underlying hu, run_underlying hud, Conv.intToInt]) (.val _)
  · rename_i ti _ _ _ _ _ hs hd
    obtain ⟨rfl, rfl⟩ := h.ok
    cases hx
    obtain ⟨d, hu, _⟩ := (hT src _ hs).desc.agg
    have hud : P.underlying dst = some .string := (hT dst _ hd).desc
    exact .same hR (by simp [convert, run_underlying hu, run_underlying hud]) (.val _)
  · rename_i e _ _ _ _ _ _ _ _ hs hd _
    have hus : P.underlying src = some (.slice e) := (hT src _ hs).desc
    have hud : P.underlying dst = some .string := (hT dst _ hd).desc
    split at h
    · rename_i hte
      have hue : P.underlying e = some (.int .u8) := (hT e _ hte).desc
      split at h
      · obtain ⟨rfl, rfl⟩ := h.ok
        cases hx
        exact .same hR (run_convert_bytes_nil w src e hus hue 0 0 dst hud) (.val _)
      · split at h
        · rename_i xs hsl
          obtain ⟨rfl, rfl⟩ := h.ok
          obtain ⟨a, c, rfl, h1, h2⟩ := slice_read hR hx hsl
          obtain ⟨lst, l1, l2, l3, l4⟩ := slice_cells h2
          have hlst : lst = xs.map (Value.int .u8) := by
            rw [enc_flat_u8] at l4
            apply List.ext_getElem?
            intro j
            by_cases hj : j < xs.length
            · obtain ⟨v, h5, h6⟩ := l4 j _ (by rw [List.getElem?_map, List.getElem?_eq_getElem hj]; rfl)
              cases h6
              rw [h5, List.getElem?_map, List.getElem?_eq_getElem hj]; rfl
            · rw [List.getElem?_eq_none (by rw [l1]; simp [sz]; omega), List.getElem?_eq_none (by simp; omega)]
          refine .same hR ?_ (.val _)
          cases a with
          | none =>
            have : xs = [] := by have := l3 rfl; rw [hlst] at this; simpa using this
            subst this
            exact run_convert_bytes_nil w src e hus hue _ c dst hud
          | some ad =>
            have hl : (loadCells ad xs.length).run P w = .ok (xs.map (Value.int .u8)).toArray w := by
              have := run_loadCells_list (P := P) w ad lst (l2 ad rfl)
              rw [hlst] at this
              simpa using this
            rw [run_convert_bytes_string w src dst e _ _ c hus hue hud, run_bytesToString w ad _ c xs hl, bytesStr_eq]
        · exact h.fail.elim
    · exact h.fail.elim
  · exact h.fail.elim
end Go.Proofs.Ytncdakkigkmfjaa.Sx
