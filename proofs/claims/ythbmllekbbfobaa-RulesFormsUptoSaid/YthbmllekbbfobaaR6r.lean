import Derived.Test.YthbmllekbbfobaaProg
import Derived.Test.YthbmllekbbfobaaSxU
import Derived.IntWalk
import Derived.Test.YthbmllekbbfobaaR5
/-! rules, forms -/
namespace Go.Proofs.Ythbmllekbbfobaa.Sx
open Go
set_option linter.unusedVariables false
set_option linter.unusedSimpArgs false
set_option maxRecDepth 100000

def wds : Nat → List Int → List Int
  | 0, _ => []
  | n + 1, l => num (l.take 2) :: wds n (l.drop 2)
theorem wds_length : ∀ (n : Nat) (l : List Int), (wds n l).length = n
  | 0, _ => rfl
  | n + 1, l => by rw [wds, List.length_cons, wds_length n]
theorem wds_snoc : ∀ {n : Nat} {l : List Int}, wds (n + 1) l = wds n l ++ [num ((l.drop (2 * n)).take 2)]
  | 0, l => by simp [wds]
  | n + 1, l => by
    rw [wds, wds_snoc (n := n) (l := l.drop 2), wds, List.drop_drop, List.cons_append, show 2 + 2 * n = 2 * (n + 1) by omega]
def readC (b : List Int) : Rule := ⟨b.getD 0 0, b.getD 1 0, wds ((b.length - 3) / 2) (b.drop 3)⟩
def readE (b : List Int) : Int := if b.length < 3 ∨ (b.length : Int) < 3 + 2 * b.getD 2 0 then 10 else if 3 + 2 * b.getD 2 0 < (b.length : Int) then 14 else if rightR (readC b) 4 then 0 else 12
def readR (b : List Int) : Rule := if readE b = 0 then readC b else ⟨0, 0, []⟩
theorem take_head {b : List Int} (h : 3 ≤ b.length) : takeN b 0 0 [8, 8, 8] = [b.getD 0 0, b.getD 1 0, b.getD 2 0] ∧ takeE b.length 0 0 [8, 8, 8] = 0 ∧ takeAt b.length 0 0 [8, 8, 8] = 24 := by
  have e : takeE b.length 0 0 [8, 8, 8] = 0 := by
    unfold takeE
    rw [if_neg (by decide), if_neg (by decide), if_neg (by simp only [List.sum_cons, List.sum_nil]; omega)]
  refine ⟨?_, e, by rw [takeAt, if_pos e]; rfl⟩
  rw [takeN, if_pos e]
  show [num ((b.drop 0).take 1), num (((b.drop 0).drop 1).take 1), num ((((b.drop 0).drop 1).drop 1).take 1)] = _
  rw [List.drop_drop, List.drop_drop]
  rw [one_byte (by omega), one_byte (by omega), one_byte (by omega)]
theorem take_short {b : List Int} (h : b.length < 3) : takeN b 0 0 [8, 8, 8] = [] := by
  have e : takeE b.length 0 0 [8, 8, 8] = 10 := by
    unfold takeE
    rw [if_neg (by decide), if_neg (by decide), if_pos (by simp only [List.sum_cons, List.sum_nil]; omega)]
  rw [takeN, e, if_neg (by decide)]
theorem take16 {b : List Int} {k n : Nat} (hk : k < n) (hb : b.length = 3 + 2 * n) {a : Int} (ha : a = ((24 + 16 * k : Nat) : Int)) :
    takeE b.length a 0 [16] = 0 ∧ takeN b a 0 [16] = [num (((b.drop 3).drop (2 * k)).take 2)] ∧ takeAt b.length a 0 [16] = ((24 + 16 * (k + 1) : Nat) : Int) := by
  subst ha
  have e : takeE b.length ((24 + 16 * k : Nat) : Int) 0 [16] = 0 := by
    unfold takeE
    rw [if_neg (by decide), if_neg (by decide), if_neg (by simp only [List.sum_cons, List.sum_nil]; omega)]
  refine ⟨e, ?_, by rw [takeAt, if_pos e]; simp only [List.sum_cons, List.sum_nil]; omega⟩
  rw [takeN, if_pos e]
  show [num ((b.drop (((24 + 16 * k : Nat) : Int) / 8).toNat).take 2)] = _
  rw [List.drop_drop, show (((24 + 16 * k : Nat) : Int) / 8).toNat = 3 + 2 * k by omega]
def IRd (b : List Int) (i at_ e : Int) (ws : List Int) : Prop := ∃ k : Nat, i = k ∧ (k : Int) ≤ b.getD 2 0 ∧ at_ = ((24 + 16 * k : Nat) : Int) ∧ e = 0 ∧ ws = wds k (b.drop 3)
def IRr (b : List Int) (i : Int) (ws : List Int) : Prop := ∃ k : Nat, i = ((3 + 2 * k : Nat) : Int) ∧ 3 + 2 * k ≤ b.length ∧ ws = wds k (b.drop 3)
def IFr (r : Rule) (i : Int) (out : List Int) : Prop := ∃ j : Nat, j ≤ r.weights.length ∧ i = j ∧ headR r.owner r.op r.weights ++ (r.weights.take j).flatMap (be 2) = out
theorem wds_rng : ∀ {n : Nat} {l : List Int}, isB l → ∀ x ∈ wds n l, 0 ≤ x ∧ x < 65536
  | 0, _, _, x, hx => by simp [wds] at hx
  | n + 1, l, hl, x, hx => by
    rw [wds] at hx
    rcases List.mem_cons.1 hx with rfl | hx
    · have h2 : isB (l.take 2) := fun y hy => hl y (List.mem_of_mem_take hy)
      have h := num_lt h2
      have hlen : (l.take 2).length ≤ 2 := by rw [List.length_take]; omega
      refine ⟨h.1, ?_⟩
      have : (2 : Int) ^ (8 * (l.take 2).length) ≤ 65536 := by
        rcases Nat.lt_or_ge (l.take 2).length 1 with e | e
        · rw [show (l.take 2).length = 0 by omega]; decide
        · rcases Nat.lt_or_ge (l.take 2).length 2 with e' | e'
          · rw [show (l.take 2).length = 1 by omega]; decide
          · rw [show (l.take 2).length = 2 by omega]; decide
      omega
    · exact wds_rng (n := n) (l := l.drop 2) (fun y hy => hl y (List.mem_of_mem_drop hy)) x hx
theorem wds_64 {n : Nat} {l : List Int} (hl : isB l) : ∀ x ∈ wds n l, -9223372036854775808 ≤ x ∧ x ≤ 9223372036854775807 := fun x hx => by have := wds_rng hl x hx; omega
theorem readE_short {b : List Int} (h : b.length < 3 ∨ (b.length : Int) < 3 + 2 * b.getD 2 0) : readE b = 10 ∧ readR b = ⟨0, 0, []⟩ := by
  have e : readE b = 10 := by rw [readE, if_pos h]
  exact ⟨e, by rw [readR, e, if_neg (by decide)]⟩
theorem readE_long {b : List Int} (h : 3 ≤ b.length) (h' : 3 + 2 * b.getD 2 0 < (b.length : Int)) : readE b = 14 ∧ readR b = ⟨0, 0, []⟩ := by
  have e : readE b = 14 := by rw [readE, if_neg (by omega), if_pos h']
  exact ⟨e, by rw [readR, e, if_neg (by decide)]⟩
theorem readC_at {b : List Int} {k : Nat} (h : 3 ≤ b.length) (h' : (b.length : Int) = 3 + 2 * b.getD 2 0) (hk : (k : Int) = b.getD 2 0) : readC b = ⟨b.getD 0 0, b.getD 1 0, wds k (b.drop 3)⟩ := by
  rw [readC, show (b.length - 3) / 2 = k by omega]
theorem readE_no {b : List Int} {k : Nat} (h : 3 ≤ b.length) (h' : (b.length : Int) = 3 + 2 * b.getD 2 0) (hk : (k : Int) = b.getD 2 0) (hr : rightR ⟨b.getD 0 0, b.getD 1 0, wds k (b.drop 3)⟩ 4 = false) : readE b = 12 ∧ readR b = ⟨0, 0, []⟩ := by
  have e : readE b = 12 := by rw [readE, if_neg (by omega), if_neg (by omega), readC_at h h' hk, if_neg (by rw [hr]; decide)]
  exact ⟨e, by rw [readR, e, if_neg (by decide)]⟩
theorem readE_ok {b : List Int} {k : Nat} (h : 3 ≤ b.length) (h' : (b.length : Int) = 3 + 2 * b.getD 2 0) (hk : (k : Int) = b.getD 2 0) (hr : rightR ⟨b.getD 0 0, b.getD 1 0, wds k (b.drop 3)⟩ 4 = true) : readE b = 0 ∧ readR b = ⟨b.getD 0 0, b.getD 1 0, wds k (b.drop 3)⟩ := by
  have e : readE b = 0 := by rw [readE, if_neg (by omega), if_neg (by omega), readC_at h h' hk, if_pos hr]
  exact ⟨e, by rw [readR, e, if_pos rfl, readC_at h h' hk]⟩
theorem num_two {b : List Int} {j : Nat} (h : j + 1 < b.length) : num ((b.drop j).take 2) = 256 * b.getD j 0 + b.getD (j + 1) 0 := by
  rw [List.drop_eq_getElem_cons (by omega), List.drop_eq_getElem_cons h, List.take_succ_cons, List.take_succ_cons, List.take_zero]
  simp [num, List.getD, show j < b.length by omega, h]
theorem be1w (n : Int) : be 1 n = [IntKind.u8.wrap n] := by
  simp only [be, IntKind.wrap, IntKind.signed, IntKind.bits]
  simp
theorem be2w {n : Int} (h : 0 ≤ n ∧ n ≤ 1000) : be 2 n = [IntKind.u8.wrap (IntKind.i64.wrap (n.tdiv 256)), IntKind.u8.wrap n] := by
  have e : n.tdiv 256 = n / 256 := Int.tdiv_eq_ediv_of_nonneg h.1
  rw [e, wrap64 (by omega) (by omega)]
  simp only [be, IntKind.wrap, IntKind.signed, IntKind.bits]
  simp


end Go.Proofs.Ythbmllekbbfobaa.Sx
