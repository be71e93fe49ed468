import Derived.Test.YthbmllekbbfobaaProg
import Derived.Test.YthbmllekbbfobaaSxU
import Derived.IntWalk
import Derived.Test.YthbmllekbbfobaaI7
/-! ipe, Open -/
namespace Go.Proofs.Ythbmllekbbfobaa.Sx
open Go
set_option linter.unusedVariables false
set_option linter.unusedSimpArgs false
set_option maxRecDepth 100000

def nzB (x : Int) : Bool := x != 0
def bodyO (b : List Int) : List Int := (b.drop 1).take (b.getD 0 0).toNat
def tokO (b : List Int) : Int := num ((b.drop (1 + (b.getD 0 0).toNat)).take 4)
def opE (b : List Int) : Int := if b.length < 64 then 10 else if 64 < b.length then 11 else if 59 < b.getD 0 0 then 12 else
  if parE (bodyO b) ≠ 0 then parE (bodyO b) else if (b.drop (5 + (b.getD 0 0).toNat)).any nzB = true then 14 else if tokO b < 1 ∨ 2147483647 < tokO b then 12 else 0
def opP (b : List Int) : Product := if opE b = 0 then parP (bodyO b) else zP
def opT (b : List Int) : Int := if opE b = 0 then tokO b else 0
theorem op_ne {b : List Int} {e : Int} (h : opE b = e) (he : e ≠ 0) : opE b = e ∧ opP b = zP ∧ opT b = 0 := ⟨h, if_neg (by rw [h]; exact he), if_neg (by rw [h]; exact he)⟩
theorem op_ok {b : List Int} (h : opE b = 0) : opE b = 0 ∧ opP b = parP (bodyO b) ∧ opT b = tokO b := ⟨h, if_pos h, if_pos h⟩
theorem t32z {b : List Int} (h : b.length = 4) : takeE b.length 0 0 [32] = 0 ∧ takeN b 0 0 [32] = [num b] := by
  have h1 : takeE b.length 0 0 [32] = 0 := by
    unfold takeE
    rw [if_neg (by decide), if_neg (by decide), if_neg (by rw [h]; decide)]
  refine ⟨h1, ?_⟩
  unfold takeN
  rw [if_pos h1]
  show [num ((b.drop 0).take 4)] = _
  rw [List.drop_zero, List.take_of_length_le (by omega)]
theorem bodyO_len {b : List Int} (h : b.length = 64) (hB : isB b) (hn : ¬ 59 < b.getD 0 0) : (bodyO b).length = (b.getD 0 0).toNat := by
  have := hB.getD 0
  rw [bodyO, List.length_take, List.length_drop]; omega
def IO1 (b : List Int) (i : Int) : Prop := ∃ j : Nat, j ≤ 64 ∧ i = j ∧ 5 + (b.getD 0 0).toNat ≤ j ∧ ((b.drop (5 + (b.getD 0 0).toNat)).take (j - (5 + (b.getD 0 0).toNat))).any nzB = false
def IO2 (b : List Int) (i t : Int) : Prop := ∃ j : Nat, j ≤ 4 ∧ i = ((1 + (b.getD 0 0).toNat + j : Nat) : Int) ∧ t = num ((b.drop (1 + (b.getD 0 0).toNat)).take j)
theorem op10 {b : List Int} (h : b.length < 64) : opE b = 10 := if_pos h
theorem op11 {b : List Int} (h : 64 < b.length) : opE b = 11 := by unfold opE; rw [if_neg (by omega), if_pos h]
theorem op12 {b : List Int} (h : b.length = 64) (h' : 59 < b.getD 0 0) : opE b = 12 := by unfold opE; rw [if_neg (by omega), if_neg (by omega), if_pos h']
theorem opPar {b : List Int} (h : b.length = 64) (h' : b.getD 0 0 ≤ 59) (he : parE (bodyO b) ≠ 0) : opE b = parE (bodyO b) := by unfold opE; rw [if_neg (by omega), if_neg (by omega), if_neg (by omega), if_pos he]
theorem op14 {b : List Int} (h : b.length = 64) (h' : b.getD 0 0 ≤ 59) (he : parE (bodyO b) = 0) (ha : (b.drop (5 + (b.getD 0 0).toNat)).any nzB = true) : opE b = 14 := by
  unfold opE; rw [if_neg (by omega), if_neg (by omega), if_neg (by omega), if_neg (by omega), if_pos ha]
theorem opTok {b : List Int} (h : b.length = 64) (h' : b.getD 0 0 ≤ 59) (he : parE (bodyO b) = 0) (ha : (b.drop (5 + (b.getD 0 0).toNat)).any nzB = false) (ht : tokO b < 1 ∨ 2147483647 < tokO b) : opE b = 12 := by
  unfold opE; rw [if_neg (by omega), if_neg (by omega), if_neg (by omega), if_neg (by omega), if_neg (by rw [ha]; decide), if_pos ht]
theorem opOk {b : List Int} (h : b.length = 64) (h' : b.getD 0 0 ≤ 59) (he : parE (bodyO b) = 0) (ha : (b.drop (5 + (b.getD 0 0).toNat)).any nzB = false) (ht : ¬ (tokO b < 1 ∨ 2147483647 < tokO b)) : opE b = 0 := by
  unfold opE; rw [if_neg (by omega), if_neg (by omega), if_neg (by omega), if_neg (by omega), if_neg (by rw [ha]; decide), if_neg ht]
theorem any_drop {b : List Int} {m j : Nat} (hj : j < b.length) (hm : m ≤ j) (h : nzB (b.getD j 0) = true) : (b.drop m).any nzB = true := by
  rw [List.any_eq_true]
  refine ⟨b.getD j 0, ?_, h⟩
  have e : (b.drop m).getD (j - m) 0 = b.getD j 0 := by rw [getD_drop]; congr 1; omega
  rw [← e]
  exact mem_getD (by rw [List.length_drop]; omega)


end Go.Proofs.Ythbmllekbbfobaa.Sx
