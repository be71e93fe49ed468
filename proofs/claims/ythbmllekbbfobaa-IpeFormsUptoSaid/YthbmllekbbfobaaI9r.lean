import Derived.Test.YthbmllekbbfobaaProg
import Derived.Test.YthbmllekbbfobaaSxU
import Derived.IntWalk
import Derived.Test.YthbmllekbbfobaaI8
/-! ipe, what may be done -/
namespace Go.Proofs.Ythbmllekbbfobaa.Sx
open Go
set_option linter.unusedVariables false
set_option linter.unusedSimpArgs false
set_option maxRecDepth 100000

def firstE : List Int → Int
  | [] => 0
  | e :: l => if e = 0 then firstE l else e
def doneE (p : Product) (es : List Int) : Int := if firstE es ≠ 0 then firstE es else if p.txn = 65535 then 29 else 0
def doneP (p : Product) (es : List Int) : Product := if doneE p es = 0 then { p with txn := p.txn + 1 } else zP
def IDn (es : List Int) (i : Int) : Prop := ∃ j : Nat, j ≤ es.length ∧ i = j ∧ firstE (es.drop j) = firstE es
def counted (p : Product) : Prop := p.kind = 3 ∨ p.kind = 4
instance (p : Product) : Decidable (counted p) := by unfold counted; infer_instance
def rdE (p : Product) (day : Int) : Int := if p.blocked = true then 25 else if ¬ (0 ≤ day ∧ day ≤ 65535) then 2 else if p.kind = 1 then 28 else if p.kind = 2 ∧ p.last < day then 26 else if counted p ∧ p.rides ≤ 0 then 27 else if p.txn = 65535 then 29 else 0
def rdP (p : Product) (day : Int) : Product := if rdE p day = 0 then { p with rides := if counted p then p.rides - 1 else p.rides, txn := p.txn + 1 } else zP
def jnE (p : Product) (zone day : Int) : Int := if p.blocked = true then 25 else if ¬ ((0 ≤ zone ∧ zone ≤ 255) ∧ 0 ≤ day ∧ day ≤ 65535) then 2 else if ¬ (p.kind = 1 ∧ p.open_ = false) then 28 else if p.txn = 65535 then 29 else 0
def jnP (p : Product) (zone day : Int) : Product := if jnE p zone day = 0 then { p with open_ := true, zone := zone, day := day, txn := p.txn + 1 } else zP
def jtE (p : Product) (fare : Int) : Int := if p.blocked = true then 25 else if fare < 0 then 2 else if ¬ (p.kind = 1 ∧ p.open_ = true) then 28 else if p.value < fare then 27 else if p.txn = 65535 then 29 else 0
def jtP (p : Product) (fare : Int) : Product := if jtE p fare = 0 then { p with value := p.value - fare, open_ := false, zone := 0, day := 0, txn := p.txn + 1 } else zP
def adE (p : Product) (a : Int) : Int := if p.blocked = true then 25 else if a < 0 then 2 else if ¬ p.kind = 1 then 28 else if 2147483648 - p.value < a then 29 else if p.txn = 65535 then 29 else 0
def adP (p : Product) (a : Int) : Product := if adE p a = 0 then { p with value := p.value + a, txn := p.txn + 1 } else zP
def doE (p : Product) (k a b : Int) : Int := if k = 0 then rdE p a else if k = 1 then jnE p a b else if k = 2 then jtE p a else adE p a
def doP (p : Product) (k a b : Int) : Product := if k = 0 then rdP p a else if k = 1 then jnP p a b else if k = 2 then jtP p a else adP p a
theorem dE1 (X : Product) (b : Bool) (e : Int) (l : List Int) (he : e ≠ 0) : doneE X ((bif b then 0 else e) :: l) = if b = true then doneE X l else e := by
  cases b with
  | false => show (if firstE (e :: l) ≠ 0 then firstE (e :: l) else if X.txn = 65535 then 29 else 0) = e; rw [firstE, if_neg he, if_pos he]
  | true => show (if firstE (0 :: l) ≠ 0 then firstE (0 :: l) else if X.txn = 65535 then 29 else 0) = doneE X l; rw [firstE, if_pos rfl]; rfl
theorem dE25 (X : Product) (b : Bool) (l : List Int) : doneE X ((bif b then 0 else 25) :: l) = if b = true then doneE X l else 25 := dE1 X b 25 l (by decide)
theorem dE2 (X : Product) (b : Bool) (l : List Int) : doneE X ((bif b then 0 else 2) :: l) = if b = true then doneE X l else 2 := dE1 X b 2 l (by decide)
theorem dE28 (X : Product) (b : Bool) (l : List Int) : doneE X ((bif b then 0 else 28) :: l) = if b = true then doneE X l else 28 := dE1 X b 28 l (by decide)
theorem dE26 (X : Product) (b : Bool) (l : List Int) : doneE X ((bif b then 0 else 26) :: l) = if b = true then doneE X l else 26 := dE1 X b 26 l (by decide)
theorem dE27 (X : Product) (b : Bool) (l : List Int) : doneE X ((bif b then 0 else 27) :: l) = if b = true then doneE X l else 27 := dE1 X b 27 l (by decide)
theorem dE29 (X : Product) (b : Bool) (l : List Int) : doneE X ((bif b then 0 else 29) :: l) = if b = true then doneE X l else 29 := dE1 X b 29 l (by decide)
theorem dE0 (X : Product) : doneE X [] = if X.txn = 65535 then 29 else 0 := rfl
theorem doneP_eq {X : Product} {l : List Int} {e : Int} (h : doneE X l = e) : doneP X l = if e = 0 then { X with txn := X.txn + 1 } else zP := by unfold doneP; rw [h]
theorem fields_of {e e' : Int} {P Q : Product} (h : e = e') (h' : P = Q) : e = e' ∧ P.blocked = Q.blocked ∧ P.act = Q.act ∧ P.txn = Q.txn ∧ P.day = Q.day ∧ P.zone = Q.zone ∧ P.open_ = Q.open_ ∧ P.rides = Q.rides ∧ P.last = Q.last ∧ P.value = Q.value ∧ P.ver = Q.ver ∧ P.card = Q.card ∧ P.id = Q.id ∧ P.owner = Q.owner ∧ P.kind = Q.kind := by
  subst h; subst h'; exact ⟨rfl, rfl, rfl, rfl, rfl, rfl, rfl, rfl, rfl, rfl, rfl, rfl, rfl, rfl, rfl⟩
theorem done_ne {p : Product} {es : List Int} {e : Int} (h : doneE p es = e) (he : e ≠ 0) : e = doneE p es ∧ zP = doneP p es := ⟨h.symm, (if_neg (by rw [h]; exact he)).symm⟩
theorem firstE_drop : ∀ (es : List Int) (j : Nat), j < es.length → firstE (es.drop j) = if es.getD j 0 = 0 then firstE (es.drop (j + 1)) else es.getD j 0 := by
  intro es j h
  rw [drop_getD (d := (0 : Int)) h, firstE]
theorem fields_done {X Q : Product} {l : List Int} {e : Int} (h : doneE X l = e) (h' : (if e = 0 then { X with txn := X.txn + 1 } else zP) = Q) : doneE X l = e ∧ (doneP X l).blocked = Q.blocked ∧ (doneP X l).act = Q.act ∧ (doneP X l).txn = Q.txn ∧ (doneP X l).day = Q.day ∧ (doneP X l).zone = Q.zone ∧ (doneP X l).open_ = Q.open_ ∧ (doneP X l).rides = Q.rides ∧ (doneP X l).last = Q.last ∧ (doneP X l).value = Q.value ∧ (doneP X l).ver = Q.ver ∧ (doneP X l).card = Q.card ∧ (doneP X l).id = Q.id ∧ (doneP X l).owner = Q.owner ∧ (doneP X l).kind = Q.kind :=
  fields_of h ((doneP_eq h).trans h')
theorem jtE_0 {p : Product} {a : Int} (h : jtE p a = 0) : 0 ≤ a ∧ a ≤ p.value ∧ p.kind = 1 ∧ p.open_ = true ∧ p.blocked = false ∧ p.txn ≠ 65535 := by
  unfold jtE at h
  cases hb : p.blocked <;> cases ho : p.open_ <;> simp only [hb, ho] at h ⊢
  all_goals (repeat' split at h) <;> first | omega | (simp_all; done) | (simp_all; omega)
theorem adE_0 {p : Product} {a : Int} (h : adE p a = 0) : 0 ≤ a ∧ a ≤ 2147483648 - p.value ∧ p.kind = 1 ∧ p.blocked = false ∧ p.txn ≠ 65535 := by
  unfold adE at h
  cases hb : p.blocked <;> simp only [hb] at h ⊢
  all_goals (repeat' split at h) <;> first | omega | (simp_all; done) | (simp_all; omega)
theorem rdE_0 {p : Product} {a : Int} (h : rdE p a = 0) : (0 ≤ a ∧ a ≤ 65535) ∧ p.kind ≠ 1 ∧ (counted p → 0 < p.rides) ∧ p.blocked = false ∧ p.txn ≠ 65535 := by
  unfold rdE at h
  cases hb : p.blocked <;> simp only [hb] at h ⊢
  all_goals (repeat' split at h) <;> first | omega | (simp_all; done) | (simp_all; omega)
theorem jnE_0 {p : Product} {a b : Int} (h : jnE p a b = 0) : (0 ≤ a ∧ a ≤ 255) ∧ (0 ≤ b ∧ b ≤ 65535) ∧ p.kind = 1 ∧ p.blocked = false ∧ p.txn ≠ 65535 := by
  unfold jnE at h
  cases hb : p.blocked <;> cases ho : p.open_ <;> simp only [hb, ho] at h ⊢
  all_goals (repeat' split at h) <;> first | omega | (simp_all; done) | (simp_all; omega)
def rdR (p : Product) (day : Int) : Int := if ¬ (0 ≤ day ∧ day ≤ 65535) then 2 else if p.kind = 1 then 28 else if p.kind = 2 ∧ p.last < day then 26 else if counted p ∧ p.rides ≤ 0 then 27 else 0
theorem rdE_R (p : Product) (day : Int) : rdE p day = if p.blocked = true then 25 else if rdR p day ≠ 0 then rdR p day else if p.txn = 65535 then 29 else 0 := by
  unfold rdE rdR
  (repeat' split) <;> first | rfl | omega | (simp_all; done) | (simp_all; omega)
theorem doE0 (p : Product) (a b : Int) : doE p 0 a b = rdE p a := rfl
theorem doE1 (p : Product) (a b : Int) : doE p 1 a b = jnE p a b := rfl
theorem doE2 (p : Product) (a b : Int) : doE p 2 a b = jtE p a := rfl
theorem doE3 (p : Product) (a b : Int) : doE p 3 a b = adE p a := rfl
theorem doP0 (p : Product) (a b : Int) : doP p 0 a b = rdP p a := rfl
theorem doP1 (p : Product) (a b : Int) : doP p 1 a b = jnP p a b := rfl
theorem doP2 (p : Product) (a b : Int) : doP p 2 a b = jtP p a := rfl
theorem doP3 (p : Product) (a b : Int) : doP p 3 a b = adP p a := rfl
theorem fields_err {e E : Int} {Q R : Product} (h : e = E) (he : e ≠ 0) (hQ : Q = if E = 0 then R else zP) : e = E ∧ false = Q.blocked ∧ 0 = Q.act ∧ 0 = Q.txn ∧ 0 = Q.day ∧ 0 = Q.zone ∧ false = Q.open_ ∧ 0 = Q.rides ∧ 0 = Q.last ∧ 0 = Q.value ∧ 0 = Q.ver ∧ 0 = Q.card ∧ 0 = Q.id ∧ 0 = Q.owner ∧ 0 = Q.kind := by
  subst h
  rw [if_neg he] at hQ
  subst hQ
  exact ⟨rfl, rfl, rfl, rfl, rfl, rfl, rfl, rfl, rfl, rfl, rfl, rfl, rfl, rfl, rfl⟩


end Go.Proofs.Ythbmllekbbfobaa.Sx
