import Derived.Test.YthbmllekbbfobaaProg
import Derived.Test.YthbmllekbbfobaaSxU
import Derived.IntWalk
import Derived.Test.YthbmllekbbfobaaI10
/-! ipe, Body -/
namespace Go.Proofs.Ythbmllekbbfobaa.Sx
open Go
set_option linter.unusedVariables false
set_option linter.unusedSimpArgs false
set_option maxRecDepth 100000

theorem leB_fuel : ∀ (f g : Nat) (n : Int), n < 256 ^ f → n < 256 ^ g → leB f n = leB g n
  | 0, g, n, h, _ => by rw [leB_nil (by have : (256 : Int) ^ 0 = 1 := rfl; omega), leB_nil (by have : (256 : Int) ^ 0 = 1 := rfl; omega)]
  | f + 1, 0, n, _, h => by rw [leB_nil (by have : (256 : Int) ^ 0 = 1 := rfl; omega), leB_nil (by have : (256 : Int) ^ 0 = 1 := rfl; omega)]
  | f + 1, g + 1, n, h, h' => by
    rw [leB, leB]
    split
    · rfl
    · rw [leB_fuel f g (n / 256) (by rw [Int.pow_succ] at h; omega) (by rw [Int.pow_succ] at h'; omega)]
theorem numB_step {n : Int} (h : 0 < n) (h' : n < 256 ^ 7) : numB n = numB (n / 256) ++ [n % 256] := by
  rw [numB, leB, if_neg (by omega), List.reverse_cons, numB, leB_fuel 7 8 (n / 256) (by simp only [Int.reducePow] at *; omega) (by simp only [Int.reducePow] at *; omega)]
def IRfm (p : Product) (i : Int) (b : List Int) : Prop := ∃ j : Nat, j ≤ 14 ∧ i = j ∧ b = innL 0 ((numsP p).take j)
def bodyB (p : Product) (t : Int) : List Int := ((formB p).length : Int) :: (formB p ++ (be 4 t ++ List.replicate (59 - (formB p).length) 0))
def bodyE_ (p : Product) (t : Int) : Int := if rightP p = true ∧ 1 ≤ t ∧ t ≤ 2147483647 then 0 else 2
def bodyL (p : Product) (t : Int) : List Int := if rightP p = true ∧ 1 ≤ t ∧ t ≤ 2147483647 then bodyB p t else []
theorem bodyB_len {p : Product} (h : rightP p = true) (t : Int) : (bodyB p t).length = 64 := by
  have := formB_len h
  simp only [bodyB, List.length_cons, List.length_append, be_length, List.length_replicate]; omega
theorem putB_32 {t : Int} (h : 1 ≤ t) (h' : t ≤ 2147483647) : putB [] [⟨32, t⟩] = be 4 t := by
  have hr : rightF ⟨32, t⟩ = true := by
    simp only [rightF, Bool.and_eq_true, decide_eq_true_eq]
    exact ⟨⟨⟨by decide, by decide⟩, by show 0 ≤ t; omega⟩, by show t < 4294967296; omega⟩
  simp [putB, hr, bytesF]
theorem getD_append_left' {l r : List Int} {i : Nat} (h : i < l.length) : (l ++ r).getD i 0 = l.getD i 0 := by
  unfold List.getD; rw [List.getElem?_append_left h]
theorem bodyB_isB {p : Product} {t : Int} (h : rightP p = true) : isB (bodyB p t) := by
  have hl := formB_len h
  intro x hx
  rcases List.mem_cons.1 hx with rfl | hx
  · omega
  · refine ((formB_isB h).append ((be_isB 4 t).append ?_)) x hx
    intro y hy
    obtain rfl := (List.mem_replicate.1 hy).2
    omega
theorem num_be4 {t : Int} (h : 0 ≤ t) (h' : t < 4294967296) : num (be 4 t) = t := by
  simp only [be, num, List.nil_append, List.cons_append, List.foldl_cons, List.foldl_nil]
  omega
theorem body_parts {p : Product} {t : Int} (h : rightP p = true) : (bodyB p t).getD 0 0 = ((formB p).length : Int) ∧ bodyO (bodyB p t) = formB p ∧ ((bodyB p t).drop (1 + (formB p).length)).take 4 = be 4 t ∧ (bodyB p t).drop (5 + (formB p).length) = List.replicate (59 - (formB p).length) 0 := by
  have e0 : (bodyB p t).getD 0 0 = ((formB p).length : Int) := rfl
  refine ⟨e0, ?_, ?_, ?_⟩
  · rw [bodyO, e0, Int.toNat_natCast, bodyB, List.drop_succ_cons, List.drop_zero, List.take_left]
  · rw [bodyB, show 1 + (formB p).length = (formB p).length + 1 by omega, List.drop_succ_cons, List.drop_left, List.take_append_of_le_length (by rw [be_length]; omega), List.take_of_length_le (by rw [be_length]; omega)]
  · rw [bodyB, show 5 + (formB p).length = ((formB p).length + 4) + 1 by omega, List.drop_succ_cons, ← List.append_assoc, List.drop_left' (by rw [List.length_append, be_length])]
theorem open_body {p : Product} {t : Int} (h : rightP p = true) (h1 : 1 ≤ t) (h2 : t ≤ 2147483647) : opE (bodyB p t) = 0 ∧ opP (bodyB p t) = p ∧ opT (bodyB p t) = t := by
  have hl := formB_len h
  obtain ⟨e0, e1, e2, e3⟩ := body_parts (t := t) h
  have ht : tokO (bodyB p t) = t := by rw [tokO, e0, Int.toNat_natCast, e2]; exact num_be4 (by omega) (by omega)
  have hE : opE (bodyB p t) = 0 := by
    refine opOk (bodyB_len h t) (by rw [e0]; omega) (by rw [e1]; exact (par_form h).1) ?_ (by rw [ht]; omega)
    rw [e0, Int.toNat_natCast, e3, List.any_eq_false]
    intro x hx
    obtain rfl := (List.mem_replicate.1 hx).2
    decide
  obtain ⟨q1, q2, q3⟩ := op_ok hE
  exact ⟨q1, by rw [q2, e1]; exact (par_form h).2, by rw [q3, ht]⟩
theorem splice_len {α : Type} {l r : List α} {j : Nat} (h : j + r.length ≤ l.length) : (splice l j r).length = l.length := by
  simp [splice]; omega
theorem splice_rep {α : Type} {A x : List α} {z : α} {k j : Nat} (hj : j = A.length) : splice (A ++ List.replicate k z) j x = (A ++ x) ++ List.replicate (k - x.length) z := by
  subst hj
  rw [splice, List.take_left, List.drop_append, List.drop_of_length_le (by omega), List.nil_append, show A.length + x.length - A.length = x.length by omega, List.drop_replicate]
theorem splice_three {α : Type} {x0 x1 x2 : List α} {z : α} : splice (splice (splice (List.replicate (x0.length + x1.length + x2.length) z) (0 + 0) x0) (0 + (0 + x0.length)) x1) (0 + (0 + x0.length + x1.length)) x2 = x0 ++ (x1 ++ x2) := by
  have h0 := splice_rep (A := ([] : List α)) (x := x0) (z := z) (k := x0.length + x1.length + x2.length) (j := 0 + 0) rfl
  rw [List.nil_append, List.nil_append] at h0
  rw [h0, splice_rep (j := 0 + (0 + x0.length)) (by omega), splice_rep (j := 0 + (0 + x0.length + x1.length)) (by rw [List.length_append]; omega)]
  rw [show x0.length + x1.length + x2.length - x0.length - x1.length - x2.length = 0 by omega, List.replicate_zero, List.append_nil, List.append_assoc]
theorem body_eq {p : Product} {t : Int} (h : rightP p = true) : [((formB p).length : Int)] ++ (formB p ++ be 4 t) ++ List.replicate (59 - (formB p).length) 0 = bodyB p t := by
  simp [bodyB]
theorem innL_take (i : Int) : ∀ (ns : List Int) (j : Nat), (innL i (ns.take j)).length ≤ (innL i ns).length := by
  intro ns
  induction ns generalizing i with
  | nil => intro j; simp
  | cons n ns ih =>
    intro j
    cases j with
    | zero => simp [innL]
    | succ j =>
      have := ih (i + 1) j
      simp only [List.take_succ_cons, innL, List.length_append]; omega
theorem inn_take {p : Product} (h : rightP p = true) (j : Nat) : (innL 0 ((numsP p).take j)).length ≤ 51 := Nat.le_trans (innL_take 0 _ j) (inn_len h)
theorem right_4 {p : Product} (h : rightP p = true) {n : Int} (hn : n ∈ numsP p) : n < 4294967296 := by
  obtain ⟨⟨a1, a2⟩, ⟨b1, b2⟩, ⟨c1, c2⟩, ⟨d1, d2⟩, ⟨e1, e2⟩, ⟨f1, f2⟩, ⟨g1, g2⟩, ⟨h1, h2⟩, ⟨i1, i2⟩, ⟨j1, j2⟩, ⟨k1, k2⟩, ⟨l1, l2⟩⟩ := right_iff.1 h
  have o := b2i_le p.open_
  have q := b2i_le p.blocked
  simp only [numsP, List.mem_cons, List.not_mem_nil, or_false] at hn
  rcases hn with rfl | rfl | rfl | rfl | rfl | rfl | rfl | rfl | rfl | rfl | rfl | rfl | rfl | rfl <;> omega
def IRBo (p : Product) (t : Int) (b : List Int) : Prop := ∃ j : Nat, j ≤ 59 - (formB p).length ∧ b = ((formB p).length : Int) :: (formB p ++ (be 4 t ++ List.replicate j 0))
theorem be_num4 : ∀ {l : List Int}, isB l → l.length = 4 → be 4 (num l) = l
  | [a, b, c, d], h, _ => by
    have ha := h a (by simp)
    have hb := h b (by simp)
    have hc := h c (by simp)
    have hd := h d (by simp)
    simp only [be, num, List.nil_append, List.cons_append, List.foldl_cons, List.foldl_nil, List.cons.injEq, and_true]
    refine ⟨by omega, by omega, by omega, by omega⟩
theorem any_nz {l : List Int} (h : l.any nzB = false) : l = List.replicate l.length 0 := by
  refine List.eq_replicate_iff.2 ⟨rfl, fun x hx => ?_⟩
  have := List.any_eq_false.1 h x hx
  simpa [nzB] using this
theorem five_parts {b : List Int} {n : Nat} (h : 1 ≤ b.length) (hn : b.getD 0 0 = n) : b = (n : Int) :: ((b.drop 1).take n ++ ((b.drop (1 + n)).take 4 ++ b.drop (5 + n))) := by
  cases b with
  | nil => simp at h
  | cons x r =>
    obtain rfl : x = n := hn
    rw [List.drop_succ_cons, List.drop_zero, show 1 + n = n + 1 by omega, List.drop_succ_cons, show 5 + n = (n + 4) + 1 by omega, List.drop_succ_cons, ← List.drop_drop, List.take_append_drop, List.take_append_drop]
theorem parE_0 {b : List Int} (h : parE b = 0) : rightP (candP b) = true ∧ formB (candP b) = b ∧ parP b = candP b := by
  have hp : parP b = candP b := if_pos h
  unfold parE at h
  by_cases h1 : (getP 4 b).2 ≠ 0
  · rw [if_pos h1] at h; exact absurd h h1
  · rw [if_neg h1] at h
    by_cases h2 : rightP (candP b) = true ∧ formB (candP b) = b
    · exact ⟨h2.1, h2.2, hp⟩
    · rw [if_neg h2] at h; exact absurd h (by decide)
theorem body_back {b : List Int} (hB : isB b) (h : opE b = 0) : rightP (opP b) = true ∧ (1 ≤ opT b ∧ opT b ≤ 2147483647) ∧ bodyB (opP b) (opT b) = b := by
  have hl : b.length = 64 := by
    rcases Nat.lt_trichotomy b.length 64 with h1 | h1 | h1
    · rw [op10 h1] at h; exact absurd h (by decide)
    · exact h1
    · rw [op11 h1] at h; exact absurd h (by decide)
  have h59 : ¬ 59 < b.getD 0 0 := fun h' => by rw [op12 hl h'] at h; exact absurd h (by decide)
  have hp : parE (bodyO b) = 0 := by
    rcases Decidable.em (parE (bodyO b) = 0) with h' | h'
    · exact h'
    · rw [opPar hl (by omega) h'] at h; exact h
  have ha : (b.drop (5 + (b.getD 0 0).toNat)).any nzB = false := by
    cases ha : (b.drop (5 + (b.getD 0 0).toNat)).any nzB with
    | false => rfl
    | true => rw [op14 hl (by omega) hp ha] at h; exact absurd h (by decide)
  have ht : ¬ (tokO b < 1 ∨ 2147483647 < tokO b) := fun h' => by rw [opTok hl (by omega) hp ha h'] at h; exact absurd h (by decide)
  obtain ⟨_, q2, q3⟩ := op_ok h
  obtain ⟨r1, r2, r3⟩ := parE_0 hp
  have hbl := bodyO_len hl hB h59
  have hb0 := hB.getD 0
  have hn : b.getD 0 0 = ((b.getD 0 0).toNat : Int) := by omega
  have h5 := five_parts (b := b) (by omega) hn
  have e4 : be 4 (tokO b) = (b.drop (1 + (b.getD 0 0).toNat)).take 4 := be_num4 ((hB.drop _).take _) (by rw [List.length_take, List.length_drop]; omega)
  have e0 : b.drop (5 + (b.getD 0 0).toNat) = List.replicate (59 - (b.getD 0 0).toNat) 0 := by
    have := any_nz ha
    rw [List.length_drop, hl] at this
    rw [show 59 - (b.getD 0 0).toNat = 64 - (5 + (b.getD 0 0).toNat) by omega]; exact this
  rw [q2, q3, r3]
  refine ⟨r1, by omega, ?_⟩
  rw [bodyB, r2, e4, hbl, ← e0]
  exact h5.symm
theorem four_be {t : Int} (h0 : 0 ≤ t) (h1 : t ≤ 2147483647) : [IntKind.u8.wrap (IntKind.i64.wrap (t.tdiv 16777216)), IntKind.u8.wrap (IntKind.i64.wrap (t.tdiv 65536)), IntKind.u8.wrap (IntKind.i64.wrap (t.tdiv 256)), IntKind.u8.wrap t] = be 4 t := by
  rw [Int.tdiv_eq_ediv_of_nonneg h0, Int.tdiv_eq_ediv_of_nonneg h0, Int.tdiv_eq_ediv_of_nonneg h0, wrap64 (by omega) (by omega), wrap64 (by omega) (by omega), wrap64 (by omega) (by omega)]
  simp only [IntKind.wrap_u8, be, List.nil_append, List.cons_append]
  rw [show t / 16777216 = t / 256 / 256 / 256 by omega, show t / 65536 = t / 256 / 256 by omega]
theorem form_cases (p : Product) : (rightP p = true ∧ formE p = 0 ∧ formL p = formB p) ∨ (rightP p = false ∧ formE p = 2 ∧ formL p = []) := by
  cases h : rightP p with
  | true => exact .inl ⟨rfl, by simp [formE, h], by simp [formL, h]⟩
  | false => exact .inr ⟨rfl, by simp [formE, h], by simp [formL, h]⟩
theorem body_cases (p : Product) (t : Int) : (rightP p = true ∧ 1 ≤ t ∧ t ≤ 2147483647 ∧ bodyE_ p t = 0 ∧ bodyL p t = bodyB p t) ∨ (¬ (rightP p = true ∧ 1 ≤ t ∧ t ≤ 2147483647) ∧ bodyE_ p t = 2 ∧ bodyL p t = []) := by
  by_cases h : rightP p = true ∧ 1 ≤ t ∧ t ≤ 2147483647
  · exact .inl ⟨h.1, h.2.1, h.2.2, if_pos h, if_pos h⟩
  · exact .inr ⟨h, if_neg h, if_neg h⟩
theorem all_p1 (p : Product) : [p].all rightP = rightP p := by simp
theorem all_p2 (p : Product) : [purseP, p].all rightP = rightP p := by rw [List.all_cons, show rightP purseP = true from rfl]; simp
theorem bodyL_ok (p : Product) (t : Int) : isB (bodyL p t) ∧ (bodyL p t).length ≤ 1048576 := by
  rcases body_cases p t with ⟨s1, s2, s3, s4, s5⟩ | ⟨s1, s2, s3⟩
  · rw [s5]; exact ⟨bodyB_isB s1, by rw [bodyB_len s1]; decide⟩
  · rw [s3]; exact ⟨isB_nil, by simp⟩
theorem open_L (p : Product) (t : Int) (h : bodyE_ p t = 0) : opE (bodyL p t) = 0 ∧ opP (bodyL p t) = p ∧ opT (bodyL p t) = t := by
  rcases body_cases p t with ⟨s1, s2, s3, s4, s5⟩ | ⟨s1, s2, s3⟩
  · rw [s5]; exact open_body s1 s2 s3
  · rw [s2] at h; exact absurd h (by decide)
theorem op_not (b : List Int) (h : ¬ opE b = 0) : opP b = zP ∧ opT b = 0 := ⟨if_neg h, if_neg h⟩
theorem back_L {b : List Int} (hB : isB b) (h : opE b = 0) : rightP (opP b) = true ∧ bodyE_ (opP b) (opT b) = 0 ∧ bodyL (opP b) (opT b) = b := by
  obtain ⟨h1, h2, h3⟩ := body_back hB h
  have hc : rightP (opP b) = true ∧ 1 ≤ opT b ∧ opT b ≤ 2147483647 := ⟨h1, h2.1, h2.2⟩
  exact ⟨h1, if_pos hc, by rw [bodyL, if_pos hc, h3]⟩


end Go.Proofs.Ythbmllekbbfobaa.Sx
