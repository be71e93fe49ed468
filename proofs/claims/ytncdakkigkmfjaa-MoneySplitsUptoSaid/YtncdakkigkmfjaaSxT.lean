import Derived.Test.YtncdakkigkmfjaaSxF
import Derived.Laws.Sem
import Derived.WalkKit
/-! The table of types, held against the program by one closed look. -/
namespace Go.Proofs.Ytncdakkigkmfjaa.Sx
open Go
set_option linter.unusedVariables false
set_option linter.unusedSimpArgs false

def eqZ : Value → Value → Bool
  | .bool a, .bool b => a == b
  | .int k a, .int k' b => decide (k = k') && a == b
  | .string a, .string b => a.data == #[] && b.data == #[]
  | .pointer none, .pointer none => true
  | .slice none 0 0, .slice none 0 0 => true
  | .map none, .map none => true
  | .nilFunc, .nilFunc => true
  | .nilIface, .nilIface => true
  | _, _ => false
theorem eqZ_eq {a b : Value} (h : eqZ a b = true) : a = b := by
  unfold eqZ at h
  split at h <;> simp_all
  rename_i a b
  obtain ⟨a⟩ := a; obtain ⟨b⟩ := b; simp_all
def eqZs : List Value → List Value → Bool
  | [], [] => true
  | a :: l, b :: r => eqZ a b && eqZs l r
  | _, _ => false
theorem eqZs_eq {a b : List Value} (h : eqZs a b = true) : a = b := by
  induction a generalizing b with
  | nil => cases b <;> simp_all [eqZs]
  | cons x l ih =>
    cases b with
    | nil => simp [eqZs] at h
    | cons y r => simp [eqZs] at h; rw [eqZ_eq h.1, ih h.2]

def zeroB : List CS → List Value → Bool
  | [], [] => true
  | .v x :: l, y :: r => eqZ x y && zeroB l r
  | .s _ [] :: l, .slice none 0 0 :: r => zeroB l r
  | _, _ => false
def ZeroOk (k : RK) (zs : List Value) : Prop := zs.length = sz k ∧ ∀ (j : Nat) (e : CS), (enc k (zK k))[j]? = some e → ∃ v : Value, zs[j]? = some v ∧ ∀ Imm w, CV Imm w e v
theorem zeroB_ok {cs : List CS} {zs : List Value} (h : zeroB cs zs = true) : zs.length = cs.length ∧ ∀ (j : Nat) (e : CS), cs[j]? = some e → ∃ v : Value, zs[j]? = some v ∧ ∀ Imm w, CV Imm w e v := by
  induction cs generalizing zs with
  | nil => cases zs <;> simp_all [zeroB]
  | cons c l ih =>
    unfold zeroB at h
    split at h
    · rename_i heq; cases heq
    · rename_i x l' y r e
      simp at e; obtain ⟨rfl, rfl⟩ := e
      simp at h
      obtain ⟨h1, h2⟩ := ih h.2
      refine ⟨by simp [h1], fun j e he => ?_⟩
      cases j with
      | zero => simp at he; subst he; exact ⟨y, rfl, fun _ _ => by rw [eqZ_eq h.1]; exact .v y⟩
      | succ j => simp at he; simpa using h2 j e he
    · rename_i k l' r e
      simp at e; obtain ⟨rfl, rfl⟩ := e
      obtain ⟨h1, h2⟩ := ih h
      refine ⟨by simp [h1], fun j e he => ?_⟩
      cases j with
      | zero => simp at he; subst he; exact ⟨_, rfl, fun _ _ => .s0 k⟩
      | succ j => simp at he; simpa using h2 j e he
    · cases h

def Desc (P : Program) (t : TypeId) : TD → Prop
  | .int k => P.underlying t = some (.int k)
  | .bool => P.underlying t = some .bool
  | .str => P.underlying t = some .string
  | .strct fs => (∃ fields, P.underlying t = some (.struct fields) ∧ fields.toList.map (fun f => (f.offset, f.type)) = fs ∧ (∀ f ∈ fields.toList, f.name ≠ "_" ∧ ∃ i, P.info? f.type = some i ∧ i.size ≠ 0)) ∧
      P.stoodInHeld t = false ∧ P.eqGuardType P.depth t = false
  | .arr n e => P.underlying t = some (.array n e)
  | .slice e => P.underlying t = some (.slice e)
  | .ptr => ∃ e, P.underlying t = some (.pointer e)
  | .other => ∃ d, P.underlying t = some d ∧ (match d with | .struct _ | .array _ _ => False | _ => True)
structure Agree (P : Program) (t : TypeId) (ti : TI) : Prop where
  info : ∃ i z, P.info? t = some i ∧ i.size = ti.size ∧ i.bytes = ti.bytes ∧ i.zero = some z ∧ z.cells.toList = ti.zero ∧ (isAggT ti = true → ∃ a, z = .agg a)
  desc : Desc P t ti.d
  kind : ∀ k, ti.rk = some k → ti.size = sz k ∧ ZeroOk k ti.zero

def eqPairs : List (Nat × TypeId) → List (Nat × TypeId) → Bool
  | [], [] => true
  | (a, b) :: l, (c, d) :: r => Nat.beq a c && Nat.beq b d && eqPairs l r
  | _, _ => false
theorem eqPairs_eq {a b : List (Nat × TypeId)} (h : eqPairs a b = true) : a = b := by
  induction a generalizing b with
  | nil => cases b <;> simp_all [eqPairs]
  | cons x l ih =>
    cases b with
    | nil => simp [eqPairs] at h
    | cons y r => simp [eqPairs] at h; obtain ⟨⟨h1, h2⟩, h3⟩ := h; rw [ih h3, Prod.ext h1 h2]
def descB (P : Program) (t : TypeId) : TD → Bool
  | .int k => match P.underlying t with | some (.int k') => decide (k' = k) | _ => false
  | .bool => match P.underlying t with | some .bool => true | _ => false
  | .str => match P.underlying t with | some .string => true | _ => false
  | .strct fs => (match P.underlying t with
    | some (.struct fields) => eqPairs (fields.toList.map (fun f => (f.offset, f.type))) fs && fields.toList.all (fun f => f.name != "_" && (match P.info? f.type with | some i => !Nat.beq i.size 0 | none => false))
    | _ => false) && !P.stoodInHeld t && !P.eqGuardType P.depth t
  | .arr n e => match P.underlying t with | some (.array n' e') => Nat.beq n' n && Nat.beq e' e | _ => false
  | .slice e => match P.underlying t with | some (.slice e') => Nat.beq e' e | _ => false
  | .ptr => match P.underlying t with | some (.pointer _) => true | _ => false
  | .other => match P.underlying t with | some (.struct _) | some (.array _ _) | none => false | _ => true
def agreeB (P : Program) (t : TypeId) (ti : TI) : Bool :=
  (match P.info? t with
   | some i => Nat.beq i.size ti.size && Nat.beq i.bytes ti.bytes && (match i.zero with
     | some z => eqZs z.cells.toList ti.zero && (!isAggT ti || (match z with | .agg _ => true | _ => false))
     | none => false)
   | none => false) && descB P t ti.d && (match ti.rk with
     | some k => Nat.beq ti.size (sz k) && zeroB (enc k (zK k)) ti.zero
     | none => true)
theorem descB_ok {P : Program} {t : TypeId} {d : TD} (h : descB P t d = true) : Desc P t d := by
  cases d with
  | int k => simp only [descB] at h; split at h <;> simp_all [Desc]
  | bool => simp only [descB] at h; split at h <;> simp_all [Desc]
  | str => simp only [descB] at h; split at h <;> simp_all [Desc]
  | arr n e => simp only [descB] at h; split at h <;> simp_all [Desc]
  | slice e => simp only [descB] at h; split at h <;> simp_all [Desc]
  | ptr => simp only [descB] at h; split at h <;> simp_all [Desc]
  | other =>
    simp only [descB] at h
    cases hu : P.underlying t with
    | none => rw [hu] at h; simp at h
    | some d => refine ⟨d, hu, ?_⟩; rw [hu] at h; cases d <;> simp_all
  | strct fs =>
    simp only [descB, Bool.and_eq_true] at h
    obtain ⟨⟨h1, h2⟩, h3⟩ := h
    refine ⟨?_, by simpa using h2, by simpa using h3⟩
    split at h1
    · rename_i fields hu
      simp only [Bool.and_eq_true, List.all_eq_true] at h1
      refine ⟨fields, hu, eqPairs_eq h1.1, fun f hf => ?_⟩
      have := h1.2 f hf
      simp at this
      refine ⟨this.1, ?_⟩
      have h4 := this.2
      split at h4
      · rename_i i hi; exact ⟨i, hi, by simpa [beqN] using h4⟩
      · cases h4
    · cases h1
theorem agreeB_ok {P : Program} {t : TypeId} {ti : TI} (h : agreeB P t ti = true) : Agree P t ti := by
  simp only [agreeB, Bool.and_eq_true] at h
  obtain ⟨⟨h1, h2⟩, h3⟩ := h
  refine ⟨?_, descB_ok h2, ?_⟩
  · split at h1
    · rename_i i hi
      simp only [Bool.and_eq_true] at h1
      obtain ⟨⟨h4, h5⟩, h6⟩ := h1
      split at h6
      · rename_i z hz
        simp only [Bool.and_eq_true] at h6
        refine ⟨i, z, hi, Nat.eq_of_beq_eq_true h4, Nat.eq_of_beq_eq_true h5, hz, eqZs_eq h6.1, fun ha => ?_⟩
        have h7 := h6.2
        rw [ha] at h7
        simp at h7
        split at h7
        · exact ⟨_, rfl⟩
        · cases h7
      · cases h6
    · cases h1
  · intro k hk
    rw [hk] at h3
    simp only [Bool.and_eq_true] at h3
    have := zeroB_ok h3.2
    exact ⟨Nat.eq_of_beq_eq_true h3.1, by rw [this.1, enc_length], this.2⟩
def TOk (P : Program) (T : TT) : Prop := ∀ t ti, lkN T t = some ti → Agree P t ti
theorem tOk_of {P : Program} {T : TT} (h : T.all (fun p => agreeB P p.1 p.2) = true) : TOk P T := fun t ti e => agreeB_ok ((List.all_eq_true.1 h) (t, ti) (lkN_some e))

theorem Desc.agg {P : Program} {t : TypeId} {ti : TI} (h : Desc P t ti.d) : ∃ d, P.underlying t = some d ∧ (∀ w, (Go.isAgg t).run P w = .ok (isAggT ti) w) := by
  cases hd : ti.d with
  | strct fs =>
    rw [hd] at h
    obtain ⟨⟨fields, hu, _⟩, _⟩ := h
    exact ⟨_, hu, fun w => by simp [Go.isAgg, run_underlying hu, isAggT, hd]⟩
  | ptr =>
    rw [hd] at h
    obtain ⟨e, hu⟩ := h
    exact ⟨_, hu, fun w => by simp [Go.isAgg, run_underlying hu, isAggT, hd]⟩
  | other =>
    rw [hd] at h
    obtain ⟨d, hu, hm⟩ := h
    refine ⟨_, hu, fun w => ?_⟩
    simp only [Go.isAgg, Sem.run_bind, run_underlying hu, Result.andThen_ok]
    cases d <;> first | exact hm.elim | simp [isAggT, hd]
  | _ => rw [hd] at h; exact ⟨_, h, fun w => by simp [Go.isAgg, run_underlying (show P.underlying t = _ from h), isAggT, hd]⟩
end Go.Proofs.Ytncdakkigkmfjaa.Sx
