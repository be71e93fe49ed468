import Derived.Test.YtncdakkigkmfjaaSxE
import Derived.WalkSpells
/-! The look at a region whose order is drawn; a region as the evaluator runs it. -/
namespace Go.Proofs.Ytncdakkigkmfjaa.Sx
open Go
set_option linter.unusedVariables false
set_option linter.unusedSimpArgs false

theorem bitAt_eq (m j : Nat) : bitAt m j = m.testBit j := by
  unfold bitAt
  rw [beqN, Nat.testBit_eq_decide_div_mod_eq]
  show decide (m >>> j % 2 = 1) = _
  rw [Nat.shiftRight_eq_div_pow]
theorem bit_lor (m n j : Nat) : bitAt (Nat.lor m n) j = (bitAt m j || bitAt n j) := by
  rw [bitAt_eq, bitAt_eq, bitAt_eq]; exact Nat.testBit_or m n j
theorem bit_one (i j : Nat) (h : bitAt (Nat.shiftLeft 1 i) j = true) : j = i := by
  rw [bitAt_eq] at h
  have h : (1 <<< i).testBit j = true := h
  rw [Nat.testBit_shiftLeft] at h
  simp only [Bool.and_eq_true, decide_eq_true_eq] at h
  have h1 := h.1
  by_cases e : j - i = 0
  · omega
  · have h2 := h.2
    rw [Nat.testBit_lt_two_pow (Nat.one_lt_two_pow e)] at h2
    cases h2
theorem bit_zero (j : Nat) : bitAt 0 j = false := by rw [bitAt_eq]; simp
theorem meets_no {l r : List Nat} (h : meets l r = false) : ∀ a ∈ l, a ∉ r := by
  induction l with
  | nil => intro a ha; simp at ha
  | cons b l ih =>
    unfold meets at h
    cases e : memN b r with
    | true => rw [e] at h; cases h
    | false =>
      rw [e] at h
      intro a ha
      rcases List.mem_cons.1 ha with rfl | ha
      · intro hr; rw [(memN_iff a r).2 hr] at e; cases e
      · exact ih h a ha
theorem withN_eq (n : Nat) (K : Nat → Bool) : withN n K = K n := by cases n <;> rfl

theorem maskAt_ok {tbl : List It} {j k : Nat} (h : bitAt (maskAt tbl j) k = true) : ∃ a ∈ tbl, a.ix = j ∧ bitAt a.mask k = true := by
  induction tbl with
  | nil => rw [show maskAt [] j = 0 from rfl, bit_zero] at h; cases h
  | cons a l ih =>
    unfold maskAt at h
    rw [beqN] at h
    by_cases e : a.ix = j
    · simp [e] at h
      exact ⟨a, by simp, e, h⟩
    · simp [e] at h
      obtain ⟨b, hb, h⟩ := ih h
      exact ⟨b, by simp [hb], h⟩
theorem maskOf_ok {tbl : List It} {es : List Edge} {k : Nat} (h : bitAt (maskOf tbl es) k = true) : ∃ e ∈ es, Region.binds .any e = true ∧ (k = e.on ∨ bitAt (maskAt tbl e.on) k = true) := by
  induction es with
  | nil => rw [show maskOf tbl [] = 0 from rfl, bit_zero] at h; cases h
  | cons e l ih =>
    unfold maskOf at h
    cases hb : Region.binds .any e with
    | false =>
      rw [hb] at h
      obtain ⟨e', he', h⟩ := ih h
      exact ⟨e', by simp [he'], h⟩
    | true =>
      rw [hb] at h
      dsimp only [cond] at h
      rw [bit_lor, bit_lor] at h
      simp only [Bool.or_eq_true] at h
      rcases h with (h | h) | h
      · exact ⟨e, by simp, hb, .inr h⟩
      · exact ⟨e, by simp, hb, .inl (bit_one _ _ h)⟩
      · obtain ⟨e', he', h⟩ := ih h
        exact ⟨e', by simp [he'], h⟩

structure ItOk (ops : List Oper) (p : Plan) (a : It) (o : Oper) : Prop where
  ho : ops[a.ix]? = some o
  mask : ∀ k, bitAt a.mask k = true → Anc ops k a.ix
  dst : a.dst = o.dst.toList
  ins : a.ins = insOf ops o
  ids : a.ids = needOf o (p.r a.ix).ids
  keys : a.keys = (p.r a.ix).u.map (·.1)

theorem key_in {u : List (Nat × Option VB)} {b : Nat} (h : (lkN u b).isSome = true) : b ∈ u.map (·.1) := by
  obtain ⟨v, hv⟩ := Option.isSome_iff_exists.1 h
  exact List.mem_map.2 ⟨(b, v), lkN_some hv, rfl⟩
theorem key_out {u : List (Nat × Option VB)} {b : Nat} (h : b ∉ u.map (·.1)) : (lkN u b).isSome = false := by
  cases e : (lkN u b).isSome with
  | false => rfl
  | true => exact absurd (key_in e) h

theorem freeIt_ok {ops : List Oper} {p : Plan} {a b : It} {oa ob : Oper} (ha : ItOk ops p a oa) (hb : ItOk ops p b ob) (h : freeIt a b = true) : Free ops p a.ix b.ix oa ob := by
  unfold freeIt at h
  simp only [Bool.not_eq_true', Bool.or_eq_false_iff] at h
  obtain ⟨⟨⟨⟨⟨h1, h2⟩, h3⟩, h4⟩, h5⟩, h6⟩ := h
  have h1 := meets_no h1
  have h2 := meets_no h2
  have h3 := meets_no h3
  have h4 := meets_no h4
  have h5 := meets_no h5
  have h6 := meets_no h6
  rw [ha.dst] at h1 h3
  rw [hb.dst] at h2 h3
  rw [hb.ins] at h1
  rw [ha.ins] at h2
  rw [ha.keys] at h4 h6
  rw [hb.keys] at h5 h6
  rw [hb.ids] at h4
  rw [ha.ids] at h5
  refine ⟨fun d hd => h1 d (by simp [hd]), fun d hd => h2 d (by simp [hd]), fun d hd hd' => h3 d (by simp [hd]) (by simp [hd']), fun b hk => h4 b (key_in hk), fun b hk => h5 b (key_in hk), fun b hk => key_out (h6 b (key_in hk))⟩
theorem freeOf_ok {a : It} {tbl : List It} (h : freeOf a tbl = true) : ∀ b ∈ tbl, bitAt a.mask b.ix = true ∨ freeIt a b = true := by
  induction tbl with
  | nil => intro b hb; simp at hb
  | cons c l ih =>
    unfold freeOf at h
    rw [Bool.and_eq_true] at h
    intro b hb
    rcases List.mem_cons.1 hb with rfl | hb
    · cases e : bitAt a.mask b.ix with
      | true => exact .inl rfl
      | false => have := h.1; rw [e] at this; exact .inr this
    · exact ih h.2 b hb

theorem draws_ok {ops : List Oper} {p : Plan} : ∀ (l : List Oper) (i : Nat) (r : List (List Nat × List Nat)) (tbl : List It), draws ops l i r tbl = true → (∀ j, l[j]? = ops[i + j]?) → (∀ j x, r[j]? = some x → x = (p.r (i + j)).seen) →
    (∀ a ∈ tbl, ∃ o, ItOk ops p a o) → (∀ k, k < i → ∃ a ∈ tbl, a.ix = k) →
    ∀ j oj, i ≤ j → j < i + l.length → ops[j]? = some oj → (∀ e ∈ oj.after, Region.binds .any e = true → e.on < j) ∧ ∀ k ok, k < j → ops[k]? = some ok → Anc ops k j ∨ Free ops p j k oj ok
  | [], i, r, tbl, _, _, _, _, _ => fun j oj h1 h2 => by simp at h2; omega
  | o :: l, i, [], tbl, h, _, _, _, _ => by simp [draws] at h
  | o :: l, i, (ids, ks) :: r, tbl, h, hl, hr, ht, hfull => by
    unfold draws at h
    rw [withN_eq] at h
    dsimp only at h
    rw [Bool.and_eq_true, Bool.and_eq_true] at h
    obtain ⟨h1, h2, h3⟩ := h
    have ho : ops[i]? = some o := by simpa using (hl 0).symm
    have hs := hr 0 (ids, ks) rfl
    have hi : ItOk ops p ⟨i, maskOf tbl o.after.toList, o.dst.toList, insOf ops o, needOf o ids, ks⟩ o := by
      refine ⟨ho, ?_, rfl, rfl, congrArg (needOf o) (congrArg Prod.fst hs), congrArg Prod.snd hs⟩
      intro k hk
      obtain ⟨e, he, hb, hk⟩ := maskOf_ok hk
      have he' : e ∈ o.after := by simpa using he
      rcases hk with rfl | hk
      · exact .edge i o e ho he' hb
      · obtain ⟨a, ha, hix, hk⟩ := maskAt_ok hk
        obtain ⟨oa, hoa⟩ := ht a ha
        exact .far k i o e ho he' hb (hix ▸ hoa.mask k hk)
    have ih := draws_ok (p := p) l (i + 1) r _ h3 (fun j => by have := hl (j + 1); rw [show i + 1 + j = i + (j + 1) by omega]; simpa using this)
      (fun j x hx => by have := hr (j + 1) x (by simpa using hx); rw [this]; congr 2; omega)
      (fun a ha => by
        rcases List.mem_cons.1 ha with rfl | ha
        · exact ⟨o, hi⟩
        · exact ht a ha)
      (fun k hk => by
        by_cases e : k = i
        · exact ⟨_, List.mem_cons_self, e.symm⟩
        · obtain ⟨a, ha, h⟩ := hfull k (by omega)
          exact ⟨a, List.mem_cons_of_mem _ ha, h⟩)
    intro j oj hij hjl hoj
    by_cases e : j = i
    · subst e
      rw [ho] at hoj
      obtain rfl := Option.some.inj hoj
      refine ⟨fun ed he hb => ?_, fun k ok hk hok => ?_⟩
      · have := (List.all_eq_true.1 h1) ed (by simpa using he)
        rw [hb] at this
        simp only [Bool.not_true, Bool.false_or, Nat.blt_eq] at this
        exact this
      · obtain ⟨b, hb, hbk⟩ := hfull k hk
        obtain ⟨ob, hob⟩ := ht b hb
        have hob' := hob.ho
        rw [hbk, hok] at hob'
        obtain rfl := Option.some.inj hob'
        rcases freeOf_ok h2 b hb with h | h
        · exact .inl (hbk ▸ hi.mask _ h)
        · exact .inr (hbk ▸ freeIt_ok hi hob h)
    · exact ih j oj (by omega) (by simp only [List.length_cons] at hjl; omega) hoj

variable {P : Program} {T : TT} {Γ : List (Nat × GC)} {E : Env}

theorem run_eql_nilS (w : World) (t e : TypeId) (a : Option Addr) (n c : Nat) (h : P.underlying t = some (.slice e)) : (binOp .eql t (.slice a n c) (.slice none 0 0)).run P w = .ok (.bool a.isNone) w := Lib.run_eql_slice_nil w t e a n c 0 0 h
theorem run_neq_nilS (w : World) (t e : TypeId) (a : Option Addr) (n c : Nat) (h : P.underlying t = some (.slice e)) : (binOp .neq t (.slice a n c) (.slice none 0 0)).run P w = .ok (.bool (!a.isNone)) w := run_neq_slice_nil_any w t e a n c 0 0 h

theorem Since.drawn {Z I0 : Nat → Prop} {w0 : World} {m : Nat → Place} {Imm : Nat → Prop} {H : VH} {w : World} (h : Since Z I0 w0 m Imm H w) (n : Nat) : Since Z I0 w0 m Imm H { w with drawn := n } := by
  have cv : ∀ {c : CS} {v : Value}, CV Imm w c v → CV Imm { w with drawn := n } c v := fun h => h.stays (w := w) (w' := { w with drawn := n }) (fun _ h => h) (fun _ _ => rfl)
  have hold : ∀ {p : Place} {vb : VB}, Hold m Imm w p vb → Hold m Imm { w with drawn := n } p vb := fun h => h.stays (w := w) (w' := { w with drawn := n }) (fun _ h => h) (fun _ _ => rfl) (fun _ => rfl) (fun _ _ _ _ => rfl)
  exact ⟨⟨fun b vb e => hold (h.rel.hold b vb e), h.rel.dist, h.rel.apart, h.rel.imm⟩, h.mono, h.zone, h.own, h.keep, ⟨h.calm.os, h.calm.tape, h.calm.output, h.calm.size⟩, h.big⟩
theorem Live.drawn {m : Nat → Place} {Imm : Nat → Prop} {g : Nat → SV} {H : VH} {a : Act} {w : World} (h : Live E m Imm g H a w) (n : Nat) : Live E m Imm g H a { w with drawn := n } :=
  ⟨h.since.drawn n, h.slots, h.size, h.defers, h.same⟩

/-- What is so at a place of the code. -/
structure Inv (E : Env) (S : St) (m : Nat → Place) (Imm : Nat → Prop) (a : Act) (w : World) : Prop where
  live : Live E m Imm S.get S.look a w
  low : ∀ b, Used S.get S.look b → b < S.next
  low0 : E.low ≤ S.next
  kn : KnOK S

def planOf (ops : List Oper) (rs : List Rec) (S : St) : Plan := ⟨ops.length, dstOf ops, fun i => rs.getD i ⟨.undef, [], []⟩, S.get, S.look⟩

theorem drawn_wp (hT : TOk P T) (hΓ : GOks P Γ) (hm : P.follows .mixedOrders = true) {Q : Exit → Act → World → Prop} {id : Nat} {ops : Array Oper} {S : St} {K : St → Prop} {a : Act} {w : World} {m : Nat → Place} {Imm : Nat → Prop}
    (hd : ∀ o ∈ ops, ∀ d, o.dst = some d → d < E.wide) (h : runOps T Γ true ops.toList ops.toList S.next S [] fun acc S' => draws ops.toList ops.toList 0 acc.reverse [] = true ∧ K S') (hI : Inv E S m Imm a w)
    (hQ : ∀ a w m Imm S', K S' → Inv E S' m Imm a w → (∃ u, S'.hp = u ++ S.hp) → S.next ≤ S'.next → (∀ d, (∀ o ∈ ops, o.dst ≠ some d) → S'.get d = S.get d) → Q .normal a w) : (Code.region id ops true).wp P Q a w := by
  obtain ⟨rs, S', h1, h2, h3, h4, h5, h6⟩ := runOps_ok ops.toList S.next S [] h hI.kn
  generalize hp : planOf ops.toList rs S = p
  have hn : p.n = ops.toList.length := by subst hp; rfl
  have hD : ∀ i, p.D i = dstOf ops.toList i := by subst hp; intro i; rfl
  have hr : ∀ j r, rs[j]? = some r → p.r j = r := by
    subst hp
    intro j r hj
    show rs.getD j _ = r
    rw [List.getD_eq_getElem?_getD, hj]; rfl
  have hg0 : p.g0 = S.get := by subst hp; rfl
  have hH0 : p.H0 = S.look := by subst hp; rfl
  obtain ⟨h7, h8, h9⟩ := h1.plan (p := p) (key0 := S.next) hn hD 0 (by simp) (by simp) (fun j r hj => by simpa using hr j r hj) (by rw [p.G_zero, hg0]) (by rw [p.H_zero, hH0]) (by simp)
  have planned : Planned T Γ ops.toList p S.next := ⟨hn, hD, fun j o hj => h7 j o (Nat.zero_le _) hj⟩
  have fresh0 : Fresh p S.next (upto 0) := by
    intro b hb
    rw [p.G_zero, p.H_zero, hg0, hH0] at hb
    exact .inl (hI.low b hb)
  -- the end
  have fin : ∀ i, i ≤ p.n → Fresh p S.next (upto i) := by
    intro i
    induction i with
    | zero => intro _; exact fresh0
    | succ i ih =>
      intro hi
      have hlt : i < ops.size := by simp at hn; omega
      have ho : ops.toList[i]? = some ops[i] := by rw [Array.getElem?_toList]; exact Array.getElem?_eq_getElem hlt
      have hG := p.G_next (i := i) (by omega)
      rw [hD, dstOf_at ho] at hG
      exact (ih (by omega)).next (by omega) (by simp [upto]) (fun k _ h => by simp only [upto]; congr 1; simp only [eq_iff_iff]; omega) (by simp [upto]) (planned.act i _ ho) hG (p.H_next (by omega))
  have getEnd : ∀ d, (∀ o ∈ ops, o.dst ≠ some d) → S'.get d = S.get d := by
    intro d hd
    rw [h8, ← hg0, ← p.G_zero]
    refine Plan.G_congr fun k hk hdk => ?_
    exfalso
    rw [hD] at hdk
    unfold dstOf at hdk
    cases ho : ops.toList[k]? with
    | none => rw [ho] at hdk; cases hdk
    | some o => rw [ho] at hdk; exact hd o (by simpa using List.mem_of_getElem? ho) hdk
  have goal : ∀ (hK : K S') a w m Imm, Live E m Imm (p.G (upto p.n)) (p.H (upto p.n)) a w → Q .normal a w := by
    intro hK a w m Imm hl
    refine hQ a w m Imm S' hK ⟨by rw [h8, h9]; exact hl, ?_, by rw [h4]; exact Nat.le_trans hI.low0 (Nat.le_add_right _ _), h6⟩ ⟨_, h5⟩ (by rw [h4]; omega) getEnd
    intro b hb
    rw [h8, h9] at hb
    rw [h4]
    rcases fin p.n (Nat.le_refl _) b hb with h | ⟨k, hk, _, h⟩
    · omega
    · rw [inRange_iff] at h
      rw [← hn]
      have : k * stride + stride ≤ p.n * stride := by rw [← Nat.succ_mul]; exact Nat.mul_le_mul_right _ hk
      omega
  obtain ⟨hdr, hK⟩ := h3
  simp only [List.append_nil, List.reverse_reverse] at hdr
  have hok : DrawOk ops.toList p := by
    have := draws_ok (p := p) ops.toList 0 _ [] hdr (by simp) (fun j x hx => by
      rw [List.getElem?_map] at hx
      cases e : rs[j]? with
      | none => rw [e] at hx; cases hx
      | some r => rw [e] at hx; obtain rfl := Option.some.inj hx; rw [Nat.zero_add, hr j r e]) (by simp) (by simp)
    refine ⟨fun j o e ho he hb => ?_, fun j k oj ok hk hoj hok => ?_⟩
    · exact (this j o (Nat.zero_le _) (by have := (List.getElem?_eq_some_iff.1 ho).1; omega) ho).1 e he hb
    · exact (this j oj (Nat.zero_le _) (by have := (List.getElem?_eq_some_iff.1 hoj).1; omega) hoj).2 k ok hk hok
  refine wp_region_any hm ?_
  have none_done : ∀ k, done (Array.replicate ops.size false) k = false := by
    intro k
    unfold done
    rw [Array.getD_eq_getD_getElem?, Array.getElem?_replicate]
    split <;> rfl
  have hz : p.G (done (Array.replicate ops.size false)) = p.G (upto 0) := funext fun d => Plan.G_congr fun k _ _ => by rw [none_done]; simp [upto]
  have hz' : p.H (done (Array.replicate ops.size false)) = p.H (upto 0) := funext fun d => Plan.H_congr fun k _ _ => by rw [none_done]; simp [upto]
  refine draw_wp hT hΓ planned hI.low0 hok hd (goal hK) ops.size _ (by simp at hn; simp [hn]) ?_ ?_ a _ m Imm ?_ ?_
  · have : ∀ (W : Nat → Bool) n, cnt W n ≤ n := by
      intro W n
      induction n with
      | zero => exact Nat.le_refl _
      | succ n ih => simp only [cnt]; split <;> omega
    have := this (done (Array.replicate ops.size false)) p.n
    simp at hn; omega
  · intro j o e _ hj
    rw [none_done] at hj; cases hj
  · rw [hz, hz', p.G_zero, p.H_zero, hg0, hH0]
    exact hI.live.drawn _
  · intro b hb
    rw [hz, hz'] at hb
    rcases fresh0 b hb with h | ⟨k, _, h, _⟩
    · exact .inl h
    · simp [upto] at h

/-- One operation of a region whose order is the text's. -/
theorem stepS_wp (hT : TOk P T) (hΓ : GOks P Γ) {Q : Exit → Act → World → Prop} {ops : Array Oper} {i key : Nat} {o : Oper} {S : St} {K : List Nat → List Nat → St → Prop} {K' : Act → World → Prop} {m : Nat → Place} {Imm : Nat → Prop} {a : Act} {w : World} (ho : ops[i]? = some o)
    (h : stepS T Γ ops.toList o key S K) (hk : KnOK S) (hl : Live E m Imm S.get S.look a w) (hu : ∀ b, Used S.get S.look b → inRange key b = false) (hd : ∀ d, o.dst = some d → d < E.wide) (hlow : E.low ≤ key)
    (hn : ∀ a' w' m' Imm' S' ids ks, K ids ks S' → KnOK S' → Live E m' Imm' S'.get S'.look a' w' → S'.next = S.next → (∃ u, S'.hp = u ++ S.hp) → (∀ d, o.dst ≠ some d → S'.get d = S.get d) → (∀ b, Used S'.get S'.look b → Used S.get S.look b ∨ inRange key b = true) → K' a' w') : wpOp P ops Q i K' a w := by
  have away : Away key S.get := fun d b hb => hu b (.inr ⟨d, hb⟩)
  have put : ∀ {v : Bool} {S2 : St}, S2.get = setG S.get o.dst (.val (.bool v)) → S2.look = upd [] S.look → (∀ d, o.dst ≠ some d → S2.get d = S.get d) ∧ ∀ b, Used S2.get S2.look b → Used S.get S.look b ∨ inRange key b = true := by
    intro v S2 h1 h2
    refine ⟨fun d hd => ?_, fun b hb => .inl ?_⟩
    · rw [h1]
      unfold setG
      cases e : o.dst with
      | none => rfl
      | some d' =>
        simp only
        rw [if_neg (by rintro rfl; exact hd e)]
    · rcases hb with hb | ⟨d, hb⟩
      · rw [h2, upd_nil] at hb; exact .inl hb
      · rw [h1] at hb
        unfold setG at hb
        cases e : o.dst with
        | none => rw [e] at hb; exact .inr ⟨d, hb⟩
        | some d' =>
          rw [e] at hb
          simp only at hb
          split at hb
          · simp [SV.ids] at hb
          · exact .inr ⟨d, hb⟩
  unfold stepS at h
  split at h
  · rename_i neg x hc
    -- what is held against nil
    have hop : o.guard = none ∧ ∃ t e y ty, P.underlying t = some (.slice e) ∧ x = arg S.get y ∧ ((neg = false ∧ o.op = .binOp .eql t y (.const (.slice none 0 0)) ty) ∨ (neg = true ∧ o.op = .binOp .neq t y (.const (.slice none 0 0)) ty)) := by
      unfold nilCmp at hc
      split at hc
      · rename_i hg
        split at hc
        · rename_i op t y ty hop
          split at hc
          · rename_i e _ _ _ _ hti
            have hd' : P.underlying t = some (.slice e) := (hT t _ hti).desc
            split at hc
            · cases hc; exact ⟨hg, t, e, y, ty, hd', rfl, .inl ⟨rfl, hop⟩⟩
            · cases hc; exact ⟨hg, t, e, y, ty, hd', rfl, .inr ⟨rfl, hop⟩⟩
            · cases hc
          · cases hc
        · cases hc
      · cases hc
    obtain ⟨hg, t, e, y, ty, hund, rfl, hop⟩ := hop
    have hx := arg_V hl.slots y
    have hrun : ∀ ad n c, a.eval y = .slice ad n c → (execOp a.eval o).run P w = .ok (.value (.bool (bif neg then !ad.isNone else ad.isNone))) w := by
      intro ad n c hy
      have e1 : a.eval (.const (.slice none 0 0)) = .slice none 0 0 := rfl
      rcases hop with ⟨rfl, hop⟩ | ⟨rfl, hop⟩
      · simp only [execOp, hop, hy, e1]
        simp [eqGuard, run_eql_nilS w t e ad n c hund]
      · simp only [execOp, hop, hy, e1]
        simp [eqGuard, run_neq_nilS w t e ad n c hund]
    have hwant : Region.wanted o (yielded ops a.tmps) = true := by simp [Region.wanted, hg]
    have fin : ∀ (v : Bool), (execOp a.eval o).run P w = .ok (.value (.bool v)) w → goOn S o.dst (.val (.bool v)) [] (K [] []) → wpOp P ops Q i K' a w := by
      intro v hr hgo
      obtain ⟨S2, h8, h9, h10, h11, h12, h13⟩ := goOn_ok hgo hk
      obtain ⟨p1, p2⟩ := put h9 h10
      unfold wpOp
      simp only [ho]
      rw [if_pos hwant]
      refine .inl ?_
      unfold Oper.wp
      rw [hr]
      refine hn _ _ m Imm S2 [] [] h8 h13 ?_ h11 ⟨[], h12⟩ p1 p2
      rw [h9, h10, upd_nil]
      exact hl.put (.refl hl.since.rel key) (.val _) away hd hlow
    split at h
    · rename_i hxe
      rw [hxe] at hx
      cases hv : a.eval y with
      | slice ad n c =>
        rw [hv] at hx
        cases hx
        refine fin (!neg) ?_ h
        have := hrun none 0 0 hv
        cases neg <;> simpa using this
      | _ => rw [hv] at hx; cases hx
    · split at h
      · rename_i n hsl
        -- is it nil?
        have hcase : ∃ ad c, a.eval y = .slice ad n c ∧ (ad.isNone = true → n = 0) := by
          generalize arg S.get y = xs at hx hsl
          generalize a.eval y = v at hx ⊢
          unfold slLen at hsl
          split at hsl
          · rename_i b
            split at hsl
            · rename_i own k xs hb
              cases hsl
              obtain ⟨_, p2, _⟩ := hl.since.rel.hold b _ hb
              cases hx with
              | slF _ c _ _ => rw [p2]; exact ⟨_, c, rfl, fun h => by cases h⟩
              | slF0 _ h1 => rw [h1] at p2; rw [← p2]; exact ⟨none, 0, rfl, fun _ => rfl⟩
            · cases hsl
          · cases hsl
            cases hx with
            | slP _ _ _ c _ _ _ => exact ⟨_, c, rfl, fun h => by cases h⟩
            | slP0 _ _ ad => exact ⟨_, 0, rfl, fun _ => rfl⟩
          · cases hsl
        obtain ⟨ad, c, hv, hn0⟩ := hcase
        exact fin _ (hrun ad n c hv) (h ad.isNone hn0)
      · exact h.elim
  · obtain ⟨s, u, ids, S2, h1, h2, h3, h4, h5, h6, h7⟩ := step_ok h hk
    refine act_wp hT hΓ ho h1 hl hu hd hlow ?_
    intro a' w' m' Imm' hl'
    refine hn a' w' m' Imm' S2 ids _ h2 h7 (by rw [h3, h4]; exact hl') h5 ⟨u, h6⟩ (fun d hd => ?_) (fun b hb => ?_)
    · rw [h3]
      unfold setG
      cases e : o.dst with
      | none => rfl
      | some d' =>
        simp only
        rw [if_neg (by rintro rfl; exact hd e)]
    · rw [h3, h4] at hb
      exact h1.used hb

theorem seq_wp (hT : TOk P T) (hΓ : GOks P Γ) {Q : Exit → Act → World → Prop} {ops : Array Oper} {S0 : St} {K : St → Prop} (hd : ∀ o ∈ ops, ∀ d, o.dst = some d → d < E.wide)
    (hQ : ∀ a w m Imm S', K S' → Inv E S' m Imm a w → (∃ u, S'.hp = u ++ S0.hp) → S0.next ≤ S'.next → (∀ d, (∀ o ∈ ops, o.dst ≠ some d) → S'.get d = S0.get d) → Q .normal a w) : ∀ (l : List Oper) (i key : Nat) (S : St) (acc : Seen), ops.toList.drop i = l → S0.next ≤ key → E.low ≤ key →
      runOps T Γ false ops.toList l key S acc (fun _ S' => K S') → KnOK S → ∀ a w m Imm, Live E m Imm S.get S.look a w → (∀ b, Used S.get S.look b → b < key) → (∃ u, S.hp = u ++ S0.hp) → (∀ d, (∀ o ∈ ops, o.dst ≠ some d) → S.get d = S0.get d) →
      wpOps P ops Q (List.range' i (ops.size - i)) a w
  | [], i, key, S, acc, hl, hkey, hlow, h, hk, a, w, m, Imm, hL, hfr, hhp, hget => by
    have hi : ops.size ≤ i := by
      have := congrArg List.length hl
      simp at this
      omega
    rw [show ops.size - i = 0 by omega]
    obtain ⟨tp, hp, n, kn⟩ := S
    have h : K ⟨tp, hp, key, kn⟩ := h
    exact hQ a w m Imm _ h ⟨hL, hfr, hlow, hk⟩ hhp hkey hget
  | o :: l, i, key, S, acc, hl, hkey, hlow, h, hk, a, w, m, Imm, hL, hfr, hhp, hget => by
    have hlt : i < ops.size := by
      have := congrArg List.length hl
      simp at this
      omega
    have ho : ops[i]? = some o := by
      have : (ops.toList.drop i)[0]? = some o := by rw [hl]; rfl
      rw [List.getElem?_drop, Nat.add_zero, Array.getElem?_toList] at this
      exact this
    have hmem : o ∈ ops := Array.mem_of_getElem? ho
    have hl' : ops.toList.drop (i + 1) = l := by rw [← List.drop_drop, hl]; rfl
    rw [show ops.size - i = (ops.size - (i + 1)) + 1 by omega, List.range'_succ, wpOps_cons]
    rw [runOps_cons] at h
    have h : stepS T Γ ops.toList o key S fun ids ks S => match key + stride with
      | 0 => Fail "key"
      | n + 1 => runOps T Γ false ops.toList l (n + 1) S acc (fun _ S' => K S') := h
    refine stepS_wp hT hΓ ho h hk hL (fun b hb => ?_) (hd o hmem) hlow ?_
    · have := hfr b hb
      cases e : inRange key b with
      | false => rfl
      | true => rw [inRange_iff] at e; omega
    · intro a' w' m' Imm' S' ids ks hK hk' hL' hnx hhp' hget' hus
      have hn : ∃ n, key + stride = n + 1 := ⟨key + 63, rfl⟩
      obtain ⟨n, hn⟩ := hn
      rw [hn] at hK
      dsimp only at hK
      rw [← hn] at hK
      refine seq_wp hT hΓ hd hQ l (i + 1) (key + stride) S' acc hl' (by omega) (by omega) hK hk' a' w' m' Imm' hL' (fun b hb => ?_) ?_ (fun d hd' => (hget' d (hd' o hmem)).trans (hget d hd'))
      · rcases hus b hb with h | h
        · have := hfr b h; omega
        · rw [inRange_iff] at h; exact h.2
      · obtain ⟨u, hu⟩ := hhp
        obtain ⟨u', hu'⟩ := hhp'
        exact ⟨u' ++ u, by rw [hu', hu, List.append_assoc]⟩

theorem region_wp (hT : TOk P T) (hΓ : GOks P Γ) (hm : P.follows .mixedOrders = true) {Q : Exit → Act → World → Prop} {id : Nat} {ops : Array Oper} {dr : Bool} {S : St} {K : St → Prop} {a : Act} {w : World} {m : Nat → Place} {Imm : Nat → Prop}
    (hd : ∀ o ∈ ops, ∀ d, o.dst = some d → d < E.wide) (h : runOps T Γ dr ops.toList ops.toList S.next S [] fun acc S' => bif dr then draws ops.toList ops.toList 0 acc.reverse [] = true ∧ K S' else K S') (hI : Inv E S m Imm a w)
    (hQ : ∀ a w m Imm S', K S' → Inv E S' m Imm a w → (∃ u, S'.hp = u ++ S.hp) → S.next ≤ S'.next → (∀ d, (∀ o ∈ ops, o.dst ≠ some d) → S'.get d = S.get d) → Q .normal a w) : (Code.region id ops dr).wp P Q a w := by
  cases dr with
  | true => exact drawn_wp hT hΓ hm hd h hI hQ
  | false =>
    refine wp_region ?_
    rw [List.range_eq_range']
    exact seq_wp hT hΓ hd hQ ops.toList 0 S.next S [] rfl (Nat.le_refl _) hI.low0 h hI.kn a w m Imm hI.live hI.low ⟨[], rfl⟩ (fun _ _ => rfl)
end Go.Proofs.Ytncdakkigkmfjaa.Sx
