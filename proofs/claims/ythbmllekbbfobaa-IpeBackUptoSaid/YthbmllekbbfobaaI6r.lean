import Derived.Test.YthbmllekbbfobaaProg
import Derived.Test.YthbmllekbbfobaaSxU
import Derived.IntWalk
import Derived.Test.YthbmllekbbfobaaI5
/-! ipe, Parse -/
namespace Go.Proofs.Ythbmllekbbfobaa.Sx
open Go
set_option linter.unusedVariables false
set_option linter.unusedSimpArgs false
set_option maxRecDepth 100000

def asg1 (ns : List Int) (x : Elem) : List Int := if x.tag ≤ 14 then ns.set (x.tag - 1).toNat (intV x.bytes) else ns
def asg (es : List Elem) (ns : List Int) : List Int := es.foldl asg1 ns
def prodN (n : List Int) : Product := ⟨n.getD 0 0, n.getD 1 0, n.getD 2 0, n.getD 3 0, n.getD 4 0, n.getD 5 0, n.getD 6 0, n.getD 7 0, n.getD 8 0 == 1, n.getD 9 0, n.getD 10 0, n.getD 11 0, n.getD 12 0, n.getD 13 0 == 1⟩
def zN : List Int := [0, 0, 0, 0, 0, 0, 0, 0, 0, 0, 0, 0, 0, 0]
def candP (b : List Int) : Product := prodN (asg (findE 224 (getP 4 b).1).1.elems zN)
def parE (b : List Int) : Int := if (getP 4 b).2 ≠ 0 then (getP 4 b).2 else if rightP (candP b) = true ∧ formB (candP b) = b then 0 else 12
def parP (b : List Int) : Product := if parE b = 0 then candP b else zP
def IPs (es : List Elem) (i : Int) (ns : List Int) : Prop := ∃ j : Nat, j ≤ es.length ∧ i = j ∧ asg (es.take j) zN = ns
theorem okTags_mem : ∀ {l : Int} {es : List Elem}, okTags l es → ∀ x ∈ es, l < x.tag ∧ x.tag ≤ 255
  | l, y :: r, h, x, hx => by
    obtain ⟨h1, h2, h3⟩ := h
    rcases List.mem_cons.1 hx with rfl | hx
    · exact ⟨h1, h2⟩
    · have := okTags_mem h3 x hx; exact ⟨by omega, this.2⟩
theorem findE_w {d : Nat} {t : Int} : ∀ {es : List Elem}, (∀ x ∈ es, wX (wE d) x) → wE d (findE t es).1.elems
  | [], _ => wE_nil d
  | x :: l, h => by
    rw [findE]
    split
    · exact (h x List.mem_cons_self).2.2.1
    · exact findE_w fun y hy => h y (List.mem_cons_of_mem _ hy)
theorem findE_none {t : Int} : ∀ {es : List Elem}, (findE t es).2 = false → (findE t es).1.elems = []
  | [], _ => rfl
  | x :: l, h => by
    rw [findE] at h ⊢
    split at h
    · cases h
    · rename_i hn; rw [if_neg hn]; exact findE_none h
theorem asg_snoc (es : List Elem) (x : Elem) (ns : List Int) : asg (es ++ [x]) ns = asg1 (asg es ns) x := by simp [asg]
theorem par_err {b : List Int} (h : (getP 4 b).2 ≠ 0) : parE b = (getP 4 b).2 ∧ parP b = zP := by
  have e : parE b = (getP 4 b).2 := if_pos h
  exact ⟨e, if_neg (by rw [e]; exact h)⟩
theorem par_bad {b : List Int} (h0 : (getP 4 b).2 = 0) (h : ¬ (rightP (candP b) = true ∧ formB (candP b) = b)) : parE b = 12 ∧ parP b = zP := by
  have e : parE b = 12 := by rw [parE, if_neg (by simp [h0]), if_neg h]
  exact ⟨e, if_neg (by rw [e]; decide)⟩
theorem par_ok {b : List Int} (h0 : (getP 4 b).2 = 0) (h : rightP (candP b) = true) (h' : formB (candP b) = b) : parE b = 0 ∧ parP b = candP b := by
  have e : parE b = 0 := by rw [parE, if_neg (by simp [h0]), if_pos ⟨h, h'⟩]
  exact ⟨e, if_pos e⟩
theorem formE_ne {p : Product} (h : formE p ≠ 0) : rightP p = false := by
  cases hr : rightP p with
  | false => rfl
  | true => rw [formE, hr] at h; exact absurd rfl h
theorem formE_eq {p : Product} (h : formE p = 0) : rightP p = true ∧ formL p = formB p := by
  cases hr : rightP p with
  | false => rw [formE, hr] at h; cases h
  | true => rw [formL, hr]; exact ⟨rfl, rfl⟩
theorem formB_len {p : Product} (h : rightP p = true) : (formB p).length ≤ 53 := by
  have := inn_len h
  simp only [formB, List.length_cons]; omega


end Go.Proofs.Ythbmllekbbfobaa.Sx
