import Derived.Test.YtncdakkigkmfjaaProg
import Derived.Test.YtncdakkigkmfjaaSxU
import Derived.IntWalk
import Derived.Test.YtncdakkigkmfjaaF1
/-! fare -/
namespace Go.Proofs.Ytncdakkigkmfjaa.Sx
open Go
set_option linter.unusedVariables false
set_option linter.unusedSimpArgs false
set_option maxRecDepth 100000


def inR (lo hi : Int) (ns : List Int) : Bool := ns.all fun n => decide (lo ≤ n) && decide (n ≤ hi)
def goodJ (j : Journey) : Bool := inR 1 4 [j.op, j.owner] && inR 1 2147483647 [j.seq] && inR 1 65535 [j.card, j.id] && inR 1 4 [j.kind] && inR 0 255 [j.frm, j.to] && inR 0 2147483648 [j.fare] && inR 0 65535 [j.day]
def good (js : List Journey) : Bool := js.all goodJ
def widthsL : List Int := [8, 32, 16, 8, 16, 8, 8, 8, 32, 16]
def numbersJ (j : Journey) : List Int := [j.op, j.seq, j.card, j.owner, j.id, j.kind, j.frm, j.to, j.fare, j.day]
def fieldsJ (j : Journey) : List FieldT := [⟨8, j.op⟩, ⟨32, j.seq⟩, ⟨16, j.card⟩, ⟨8, j.owner⟩, ⟨16, j.id⟩, ⟨8, j.kind⟩, ⟨8, j.frm⟩, ⟨8, j.to⟩, ⟨32, j.fare⟩, ⟨16, j.day⟩]
def formJ (j : Journey) : List Int := bytesF (fieldsJ j)
def form (js : List Journey) : List Int := js.flatMap formJ
def putJE (js : List Journey) : Int := if good js then 0 else 2
def putJ (js : List Journey) : List Int := if good js then form js else []
theorem formJ_length (j : Journey) : (formJ j).length = 19 := by simp [formJ, fieldsJ, bytesF, be_length]
theorem form_length : ∀ (js : List Journey), (form js).length = 19 * js.length
  | [] => rfl
  | j :: js => by
    have := form_length js
    simp only [form, List.flatMap_cons, List.length_append, formJ_length, List.length_cons] at *
    omega
theorem form_snoc (js : List Journey) (j : Journey) : form (js ++ [j]) = form js ++ formJ j := by simp [form]
theorem inR_iff {lo hi : Int} {ns : List Int} : inR lo hi ns = true ↔ ∀ n ∈ ns, lo ≤ n ∧ n ≤ hi := by simp [inR]
theorem goodJ_iff (j : Journey) : goodJ j = true ↔ (1 ≤ j.op ∧ j.op ≤ 4) ∧ (1 ≤ j.owner ∧ j.owner ≤ 4) ∧ (1 ≤ j.seq ∧ j.seq ≤ 2147483647) ∧ (1 ≤ j.card ∧ j.card ≤ 65535) ∧ (1 ≤ j.id ∧ j.id ≤ 65535) ∧ (1 ≤ j.kind ∧ j.kind ≤ 4) ∧ (0 ≤ j.frm ∧ j.frm ≤ 255) ∧ (0 ≤ j.to ∧ j.to ≤ 255) ∧ (0 ≤ j.fare ∧ j.fare ≤ 2147483648) ∧ (0 ≤ j.day ∧ j.day ≤ 65535) := by
  simp [goodJ, inR_iff]
  omega
theorem fieldsJ_right {j : Journey} (h : goodJ j = true) : (fieldsJ j).all rightF = true := by
  rw [goodJ_iff] at h
  have e1 : (2 : Int) ^ (8 : Int).toNat = 256 := rfl
  have e2 : (2 : Int) ^ (16 : Int).toNat = 65536 := rfl
  have e3 : (2 : Int) ^ (32 : Int).toNat = 4294967296 := rfl
  simp only [fieldsJ, rightF, List.all_cons, List.all_nil, Bool.and_eq_true, decide_eq_true_eq, e1, e2, e3, and_true]
  omega
theorem fieldsJ_get (j : Journey) {m : Nat} (hm : m < 10) : (fieldsJ j).getD m ⟨0, 0⟩ = ⟨widthsL.getD m 0, (numbersJ j).getD m 0⟩ := by
  have : m = 0 ∨ m = 1 ∨ m = 2 ∨ m = 3 ∨ m = 4 ∨ m = 5 ∨ m = 6 ∨ m = 7 ∨ m = 8 ∨ m = 9 := by omega
  rcases this with rfl | rfl | rfl | rfl | rfl | rfl | rfl | rfl | rfl | rfl <;> rfl
theorem fieldsJ_put {j : Journey} (h : goodJ j = true) {m : Nat} (hm : m < 10) (xs : List Int) : putB xs [⟨widthsL.getD m 0, (numbersJ j).getD m 0⟩] = xs ++ bytesF [(fieldsJ j).getD m ⟨0, 0⟩] ∧ (widthsL.getD m 0) % 8 = 0 := by
  have hr := all_getD (d := (⟨0, 0⟩ : FieldT)) (fieldsJ_right h) (show m < (fieldsJ j).length from hm)
  rw [← fieldsJ_get j hm]
  refine ⟨?_, ?_⟩
  · unfold putB; rw [if_pos (by simp only [List.all_cons, List.all_nil, Bool.and_true]; exact hr)]
  · have : m = 0 ∨ m = 1 ∨ m = 2 ∨ m = 3 ∨ m = 4 ∨ m = 5 ∨ m = 6 ∨ m = 7 ∨ m = 8 ∨ m = 9 := by omega
    rcases this with rfl | rfl | rfl | rfl | rfl | rfl | rfl | rfl | rfl | rfl <;> rfl
def IIn (lo hi : Int) (ns : List Int) (i : Int) : Prop := ∃ j : Nat, j ≤ ns.length ∧ i = j ∧ inR lo hi (ns.take j) = true
def IGood (js : List Journey) (i : Int) : Prop := ∃ j : Nat, j ≤ js.length ∧ i = j ∧ good (js.take j) = true
def IPut (js : List Journey) (i : Int) (xs : List Int) (n : Int) : Prop := ∃ j : Nat, j ≤ js.length ∧ i = j ∧ xs = form (js.take j) ∧ n = 8 * xs.length
def IPutI (base : List Int) (x : Journey) (i : Int) (xs : List Int) (n : Int) : Prop := ∃ m : Nat, m ≤ 10 ∧ i = m ∧ xs = base ++ bytesF ((fieldsJ x).take m) ∧ n = 8 * xs.length
def zJ : Journey := ⟨0, 0, 0, 0, 0, 0, 0, 0, 0, 0⟩
def parseJ (bs : List Int) : Journey := ⟨(rd bs widthsL).getD 0 0, (rd bs widthsL).getD 1 0, (rd bs widthsL).getD 2 0, (rd bs widthsL).getD 3 0, (rd bs widthsL).getD 4 0, (rd bs widthsL).getD 5 0, (rd bs widthsL).getD 6 0, (rd bs widthsL).getD 7 0, (rd bs widthsL).getD 8 0, (rd bs widthsL).getD 9 0⟩
def parseJs : Nat → List Int → List Journey
  | 0, _ => []
  | n + 1, bs => parseJ bs :: parseJs n (bs.drop 19)
theorem parseJs_snoc : ∀ (n : Nat) (bs : List Int), parseJs (n + 1) bs = parseJs n bs ++ [parseJ (bs.drop (19 * n))]
  | 0, bs => by simp [parseJs]
  | n + 1, bs => by
    rw [parseJs, parseJs_snoc n (bs.drop 19), List.drop_drop, show 19 + 19 * n = 19 * (n + 1) by omega]
    rfl
theorem parseJs_length : ∀ (n : Nat) (bs : List Int), (parseJs n bs).length = n
  | 0, _ => rfl
  | n + 1, bs => by simp [parseJs, parseJs_length n]
def getJE (b : List Int) : Int := if b.length % 19 ≠ 0 then 10 else if good (parseJs (b.length / 19) b) then 0 else 12
def getJ (b : List Int) : List Journey := if getJE b = 0 then parseJs (b.length / 19) b else []
def IGet (b : List Int) (js : List Journey) (a e : Int) : Prop := ∃ j : Nat, j ≤ b.length / 19 ∧ js = parseJs j b ∧ a = ((152 * j : Nat) : Int) ∧ e = 0
theorem take_w {b : List Int} {j : Nat} (hj : j < b.length / 19) : takeE b.length ((152 * j : Nat) : Int) 0 widthsL = 0 ∧ takeN b ((152 * j : Nat) : Int) 0 widthsL = rd (b.drop (19 * j)) widthsL ∧ takeAt b.length ((152 * j : Nat) : Int) 0 widthsL = ((152 * (j + 1) : Nat) : Int) := by
  have h1 : takeE b.length ((152 * j : Nat) : Int) 0 widthsL = 0 := by
    unfold takeE
    rw [if_neg (by simp), if_neg (by decide), if_neg (by rw [show widthsL.sum = 152 from rfl]; omega)]
  refine ⟨h1, ?_, ?_⟩
  · unfold takeN
    rw [if_pos h1, show (((152 * j : Nat) : Int) / 8).toNat = 19 * j by omega]
  · unfold takeAt
    rw [if_pos h1, show widthsL.sum = 152 from rfl]
    omega
theorem widths8 : ∀ w ∈ widthsL, w % 8 = 0 := by decide
theorem good_snoc (l : List Journey) (j : Journey) : good (l ++ [j]) = (good l && goodJ j) := by simp [good]
theorem inR_snoc (lo hi : Int) (l : List Int) (j : Int) : inR lo hi (l ++ [j]) = (inR lo hi l && (decide (lo ≤ j) && decide (j ≤ hi))) := by simp [inR]
theorem not_good {js : List Journey} {j : Nat} (hj : j < js.length) (h : goodJ (js.getD j ⟨0, 0, 0, 0, 0, 0, 0, 0, 0, 0⟩) = false) : good js = false := by
  rw [← Bool.not_eq_true]
  intro hc
  exact Bool.noConfusion ((all_getD (d := (⟨0, 0, 0, 0, 0, 0, 0, 0, 0, 0⟩ : Journey)) hc hj).symm.trans h)
theorem not_inR {lo hi : Int} {ns : List Int} {j : Nat} (hj : j < ns.length) (h : ns.getD j 0 < lo ∨ hi < ns.getD j 0) : inR lo hi ns = false := by
  rw [← Bool.not_eq_true]
  intro hc
  have := inR_iff.1 hc _ (mem_getD (d := (0 : Int)) hj)
  omega


end Go.Proofs.Ytncdakkigkmfjaa.Sx
