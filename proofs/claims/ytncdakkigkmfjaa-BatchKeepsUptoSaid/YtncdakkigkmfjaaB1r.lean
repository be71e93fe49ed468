import Derived.Test.YtncdakkigkmfjaaProg
import Derived.Test.YtncdakkigkmfjaaSxU
import Derived.IntWalk
import Derived.Test.YtncdakkigkmfjaaF7
/-! batch -/
namespace Go.Proofs.Ytncdakkigkmfjaa.Sx
open Go
set_option linter.unusedVariables false
set_option linter.unusedSimpArgs false
set_option maxRecDepth 100000

/-- What a book answers to journeys. -/
def accE (op last : Int) : List Journey → Int
  | [] => 0
  | j :: r => if goodJ j = false ∨ j.op ≠ op then 2 else if j.seq ≤ last then 31 else accE op j.seq r
def lastS (last : Int) : List Journey → Int
  | [] => last
  | j :: r => lastS j.seq r
def accL (op last : Int) (js : List Journey) : Int := if accE op last js = 0 then lastS last js else last
def accR (op last : Int) (loose js : List Journey) : List Journey := if accE op last js = 0 then loose ++ js else loose
def IAcc (op last0 : Int) (js : List Journey) (i last : Int) : Prop := ∃ j : Nat, j ≤ js.length ∧ i = j ∧ accE op last (js.drop j) = accE op last0 js ∧ lastS last (js.drop j) = lastS last0 js
theorem drop_get {d : Journey} {l : List Journey} {j : Nat} (h : j < l.length) : l.drop j = l.getD j d :: l.drop (j + 1) := by
  rw [List.drop_eq_getElem_cons h]
  simp [List.getD, h]
theorem good_1 (x : Journey) : good [x] = goodJ x := by simp [good]
theorem acc_bad {op last e : Int} {loose js : List Journey} (h : accE op last js = e) (he : e ≠ 0) : loose = accR op last loose js ∧ last = accL op last js ∧ e = accE op last js :=
  ⟨by unfold accR; rw [if_neg (by rw [h]; exact he)], by unfold accL; rw [if_neg (by rw [h]; exact he)], h.symm⟩
theorem acc_two {op last last0 : Int} {js : List Journey} {j : Nat} (hj : j < js.length) (h1 : accE op last (js.drop j) = accE op last0 js) (h : goodJ (js.getD j zJ) = false ∨ (js.getD j zJ).op ≠ op) : accE op last0 js = 2 := by
  rw [← h1, drop_get (d := zJ) hj, accE, if_pos h]
theorem acc_old {op last last0 : Int} {js : List Journey} {j : Nat} (hj : j < js.length) (h1 : accE op last (js.drop j) = accE op last0 js) (g : goodJ (js.getD j zJ) = true) (o : (js.getD j zJ).op = op) (h : (js.getD j zJ).seq ≤ last) : accE op last0 js = 31 := by
  rw [← h1, drop_get (d := zJ) hj, accE, if_neg (by rw [g]; simpa using o), if_pos h]
theorem acc_more {op last last0 : Int} {js : List Journey} {j : Nat} (hj : j < js.length) (h1 : accE op last (js.drop j) = accE op last0 js) (h2 : lastS last (js.drop j) = lastS last0 js) (g : goodJ (js.getD j zJ) = true) (o : (js.getD j zJ).op = op) (h : last < (js.getD j zJ).seq) :
    accE op (js.getD j zJ).seq (js.drop (j + 1)) = accE op last0 js ∧ lastS (js.getD j zJ).seq (js.drop (j + 1)) = lastS last0 js := by
  rw [← h1, ← h2, drop_get (d := zJ) hj, accE, if_neg (by rw [g]; simpa using o), if_neg (by omega), lastS]
  exact ⟨rfl, rfl⟩
theorem acc_end {op last last0 : Int} {loose js : List Journey} {j : Nat} (hj : js.length ≤ j) (h1 : accE op last (js.drop j) = accE op last0 js) (h2 : lastS last (js.drop j) = lastS last0 js) :
    loose ++ js = accR op last0 loose js ∧ last = accL op last0 js ∧ 0 = accE op last0 js := by
  rw [List.drop_of_length_le hj] at h1 h2
  have e : accE op last0 js = 0 := h1.symm
  exact ⟨by unfold accR; rw [if_pos e], by unfold accL; rw [if_pos e, ← h2]; rfl, e.symm⟩


end Go.Proofs.Ytncdakkigkmfjaa.Sx
