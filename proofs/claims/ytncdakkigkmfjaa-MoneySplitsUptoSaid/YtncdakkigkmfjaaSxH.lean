import Derived.Test.YtncdakkigkmfjaaSxM
/-! A function as the evaluator runs it: its entry and its results. -/
namespace Go.Proofs.Ytncdakkigkmfjaa.Sx
open Go
set_option linter.unusedVariables false
set_option linter.unusedSimpArgs false

def plainCS : List CS → Option (List SV)
  | [] => some []
  | .v x :: l => match plainCS l with
    | some r => some (.val x :: r)
    | none => none
  | .s _ _ :: _ => none
def resOf (T : TT) (S : St) : ResultVar → Option SV
  | .tmp t => some (S.get t)
  | .cell a t => match S.get a, lkN T t with
    | .ptr b 0, some ti => match S.look b with
      | some (.cells cs) => bif Nat.beq (lenN cs) ti.size then (bif isAggT ti then some (.agg cs) else match cs with | [x] => some x | _ => none) else none
      | some (.row _ k xs) => bif isAggT ti then match plainCS (xs.flatMap (enc k)) with
          | some l => bif Nat.beq (lenN l) ti.size then some (.agg l) else none
          | none => none
        else none
      | _ => none
    | _, _ => none
def resAll (T : TT) (S : St) : List ResultVar → Option (List SV)
  | [] => some []
  | r :: l => match resOf T S r, resAll T S l with
    | some s, some ss => some (s :: ss)
    | _, _ => none
def packV (vs : Array Value) : Value := if h : vs.size = 1 then vs[0] else .tuple vs
def packS : List SV → SV
  | [x] => x
  | l => .tup l
theorem pack_V {m : Nat → Place} {ss : List SV} {vs : Array Value} (h : Vs m ss vs.toList) : V m (packS ss) (packV vs) := by
  have hl := h.length
  unfold packV
  split
  · rename_i h1
    match ss, hl with
    | [x], _ =>
      cases vs with
      | mk l =>
      match l, h1 with
      | [v], _ => cases h with | cons _ _ _ _ h _ => exact h
    | [], e => simp at e; omega
    | x :: y :: l, e => simp at e; omega
  · rename_i h1
    match ss, hl, h with
    | [x], e, _ => simp at e; omega
    | [], _, h => exact .tup _ _ h
    | x :: y :: l, _, h => exact .tup _ _ h

variable {P : Program} {T : TT} {Γ : List (Nat × GC)} {A : Anns} {E : Env}

def resSem (tmps : Array Value) : ResultVar → Sem Value
  | .tmp t => pure (tmps.getD t undef)
  | .cell a t => do loadVar t (← asAddr (tmps.getD a undef))

theorem plainCS_ok {Imm : Nat → Prop} {w : World} {m : Nat → Place} : ∀ {cs : List CS} {l : List SV} {lst : List Value}, plainCS cs = some l → cs.length = lst.length → (∀ (j : Nat) (e : CS), cs[j]? = some e → ∃ v, lst[j]? = some v ∧ CV Imm w e v) → Vs m l lst
  | [], l, lst, h, hl, _ => by
    obtain rfl := Option.some.inj h
    cases lst with
    | nil => exact .nil
    | cons => simp at hl
  | .s _ _ :: _, l, lst, h, _, _ => by simp [plainCS] at h
  | .v x :: cs, l, lst, h, hl, hc => by
    simp only [plainCS] at h
    split at h
    · rename_i r hr
      obtain rfl := Option.some.inj h
      cases lst with
      | nil => simp at hl
      | cons v lst =>
        have h0 : v = x := by
          obtain ⟨v', h1, h2⟩ := hc 0 _ rfl
          simp at h1
          subst h1
          cases h2; rfl
        subst h0
        exact .cons _ _ _ _ (.val _) (plainCS_ok hr (by simpa using hl) (fun j e he => by simpa using hc (j + 1) e (by simpa using he)))
    · cases h
theorem resOf_run (hT : TOk P T) {S : St} {m : Nat → Place} {Imm : Nat → Prop} {a : Act} {w : World} (hI : Inv E S m Imm a w) {r : ResultVar} {s : SV} (h : resOf T S r = some s) : ∃ v, (resSem a.tmps r).run P w = .ok v w ∧ V m s v := by
  cases r with
  | tmp t => obtain rfl := Option.some.inj h; exact ⟨_, by simp [resSem], hI.live.slots t⟩
  | cell x t =>
    simp only [resOf] at h
    split at h
    · rename_i b ti hx hti
      have hs := hI.live.slots x
      rw [hx] at hs
      split at h
      · rename_i cs hb
        have hA := hT t ti hti
        obtain ⟨h0, arr, ty, h1, h2⟩ := hI.live.since.rel.hold b _ hb
        rw [beqN, lenN_eq] at h
        by_cases hl : cs.length = ti.size
        · rw [decide_eq_true hl] at h
          have hcase : (isAggT ti = true ∧ s = .agg cs) ∨ (isAggT ti = false ∧ cs = [s]) := by
            cases ha : isAggT ti with
            | true => rw [ha] at h; exact .inl ⟨rfl, (Option.some.inj h).symm⟩
            | false =>
              rw [ha] at h
              simp only [cond_true, cond_false] at h
              split at h
              · obtain rfl := Option.some.inj h; exact .inr ⟨rfl, rfl⟩
              · cases h
          obtain ⟨v, h4, h5⟩ := loaded (P := P) (w := w) hA (b := (m b).blk) (o := 0) (by rw [← h2.length]; exact hl) (fun j' v hv => by rw [Nat.zero_add, cell_row h1]; exact hv) h2 hcase
          refine ⟨v, ?_, h5⟩
          generalize e2 : a.tmps.getD x undef = va at hs
          have hva : va = .pointer (some ⟨(m b).blk, 0, none⟩) := by
            cases hs
            simp [h0]
          have : (resSem a.tmps (.cell x t)) = (do loadVar t (← asAddr (a.tmps.getD x undef))) := rfl
          rw [this]
          rw [e2, hva]
          simpa [Instr.loadAt, Instr.sureAddr, asAddr] using h4
        · rw [decide_eq_false hl] at h; cases h
      · rename_i own k xs hb
        have hA := hT t ti hti
        obtain ⟨p1, p2, p3, p4, _, _⟩ := hI.live.since.rel.hold b _ hb
        cases ha : isAggT ti with
        | false => rw [ha] at h; cases h
        | true =>
          rw [ha] at h
          simp only [cond_true] at h
          split at h
          · rename_i l hl
            rw [beqN, lenN_eq] at h
            by_cases hlen : l.length = ti.size
            · rw [decide_eq_true hlen] at h
              obtain rfl := Option.some.inj h
              obtain ⟨lst, l1, l2, l3⟩ := row_cells (Imm := Imm) (w := w) (p := m b) (k := k) (xs := xs) (o := (m b).off) (fun i j e h1 h2 => p4 i j e h1 h2)
              have hcs : (xs.flatMap (enc k)).length = lst.length := by rw [l1, flat_length]
              have hvs : Vs m l lst := plainCS_ok hl hcs l3
              obtain ⟨v, h4, h5⟩ := loaded (P := P) (w := w) hA (b := (m b).blk) (o := (m b).off + 0) (lst := lst) (by rw [← hvs.length]; exact hlen) (fun j' v hv => by simpa using l2 j' v hv) hvs (.inl ⟨ha, rfl⟩)
              refine ⟨v, ?_, h5⟩
              generalize e2 : a.tmps.getD x undef = va at hs
              have hva : va = .pointer (some ⟨(m b).blk, (m b).off + 0, none⟩) := by
                cases hs
                rfl
              have : (resSem a.tmps (.cell x t)) = (do loadVar t (← asAddr (a.tmps.getD x undef))) := rfl
              rw [this]
              rw [e2, hva]
              simpa [Instr.loadAt, Instr.sureAddr, asAddr] using h4
            · rw [decide_eq_false hlen] at h; cases h
          · cases h
      · cases h
    · cases h

theorem resAll_run (hT : TOk P T) {S : St} {m : Nat → Place} {Imm : Nat → Prop} {a : Act} {w : World} (hI : Inv E S m Imm a w) : ∀ {l : List ResultVar} {ss : List SV}, resAll T S l = some ss → ∃ vs, (l.mapM (resSem a.tmps)).run P w = .ok vs w ∧ Vs m ss vs
  | [], ss, h => by obtain rfl := Option.some.inj h; exact ⟨[], by simp, .nil⟩
  | r :: l, ss, h => by
    simp only [resAll] at h
    split at h
    · rename_i s ss' h1 h2
      obtain rfl := Option.some.inj h
      obtain ⟨v, h3, h4⟩ := resOf_run hT hI h1
      obtain ⟨vs, h5, h6⟩ := resAll_run hT hI h2
      exact ⟨v :: vs, by simp [List.mapM_cons, h3, h5], .cons _ _ _ _ h4 h6⟩
    · cases h
theorem results_run (hT : TOk P T) {S : St} {m : Nat → Place} {Imm : Nat → Prop} {a : Act} {w : World} (hI : Inv E S m Imm a w) {fn : Func} {ss : List SV} (h : resAll T S fn.results.toList = some ss) :
    ∃ vs : Array Value, (results fn a.tmps).run P w = .ok (packV vs) w ∧ Vs m ss vs.toList := by
  obtain ⟨vs, h1, h2⟩ := resAll_run hT hI h
  refine ⟨vs.toArray, ?_, by simpa using h2⟩
  have e : results fn a.tmps = (do let vs ← fn.results.mapM (resSem a.tmps); pure (packV vs)) := by
    unfold results packV
    congr 1
  rw [e, Array.mapM_eq_mapM_toList]
  simp [h1]

/-- What is so at a function's end. -/
def Ends (T : TT) (rs : List ResultVar) (K : List SV → St → Prop) (e : Exit) (S : St) : Prop := match e with
  | .normal | .ret => match resAll T S rs with
    | some ss => K ss S
    | none => Fail "results"
  | _ => Fail "an end that is no return"

theorem calls_run (hT : TOk P T) (hΓ : GOks P Γ) (hm : P.follows .mixedOrders = true) {f : FuncId} {fn : Func} {c : Code} (hf : P.funcs[f]? = some fn) (hb : fn.body = some c) (hw : E.wide = fn.ntmps) (hd : (dsts c).all (fun d => Nat.blt d fn.ntmps) = true) {S : St} {K : List SV → St → Prop}
    (h : run T Γ A c S (Ends T fn.results.toList K)) {vals : Array Value} {w : World} {m : Nat → Place} {Imm : Nat → Prop} (hI : Inv E S m Imm { tmps := vals ++ Array.replicate (fn.ntmps - vals.size) undef, defers := [] } w) :
    Calls P f vals w fun e w' => ∃ S' m' Imm' a' ss vs, e = .returned (packV vs) ∧ K ss S' ∧ Inv E S' m' Imm' a' w' ∧ (∃ u, S'.hp = u ++ S.hp) ∧ Vs m' ss vs.toList := by
  refine calls_of_wp hf hb ?_
  refine wp_mono (run_sound hT hΓ hm c S _ _ w m Imm h (fun d hd' => ?_) hI) ?_
  · have := (List.all_eq_true.1 hd) d hd'
    rw [Nat.blt_eq] at this
    rw [hw]; exact this
  · rintro e a' w' ⟨S', m', Imm', hK, hI', hA⟩
    have key : ∀ (hE : Ends T fn.results.toList K .normal S'), a'.defers = [] ∧ ∃ v, (results fn a'.tmps).run P w' = .ok v w' ∧ ∃ S' m' Imm' a' ss vs, Ending.returned v = .returned (packV vs) ∧ K ss S' ∧ Inv E S' m' Imm' a' w' ∧ (∃ u, S'.hp = u ++ S.hp) ∧ Vs m' ss vs.toList := by
      intro hE
      unfold Ends at hE
      simp only at hE
      split at hE
      · rename_i ss hss
        obtain ⟨vs, h1, h2⟩ := results_run hT hI' hss
        exact ⟨hI'.live.defers, _, h1, S', m', Imm', a', ss, vs, rfl, hE, hI', hA.hp, h2⟩
      · exact hE.elim
    cases e with
    | normal => exact key hK
    | ret => exact key hK
    | _ => exact hK.elim
end Go.Proofs.Ytncdakkigkmfjaa.Sx
