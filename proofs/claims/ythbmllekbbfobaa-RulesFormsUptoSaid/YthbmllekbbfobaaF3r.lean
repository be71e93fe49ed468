import Derived.Test.YthbmllekbbfobaaProg
import Derived.Test.YthbmllekbbfobaaSxU
import Derived.IntWalk
import Derived.Test.YthbmllekbbfobaaF2
/-! fareboxref13 -/
namespace Go.Proofs.Ythbmllekbbfobaa.Sx
open Go
set_option linter.unusedVariables false
set_option linter.unusedSimpArgs false
set_option maxRecDepth 100000


def sizesL : List Int := [1, 4, 2, 1, 2, 1, 1, 1, 4, 2]
def leastL : List Int := [1, 1, 1, 1, 1, 1, 0, 0, 0, 0]
def mostL : List Int := [4, 2147483647, 65535, 4, 65535, 4, 255, 255, 2147483648, 65535]
theorem ten {P : Nat → Prop} (h0 : P 0) (h1 : P 1) (h2 : P 2) (h3 : P 3) (h4 : P 4) (h5 : P 5) (h6 : P 6) (h7 : P 7) (h8 : P 8) (h9 : P 9) : ∀ m, m < 10 → P m := by
  intro m hm
  have : m = 0 ∨ m = 1 ∨ m = 2 ∨ m = 3 ∨ m = 4 ∨ m = 5 ∨ m = 6 ∨ m = 7 ∨ m = 8 ∨ m = 9 := by omega
  rcases this with rfl | rfl | rfl | rfl | rfl | rfl | rfl | rfl | rfl | rfl <;> assumption
def okAt (j : Journey) (m : Nat) : Prop := leastL.getD m 0 ≤ (numbersJ j).getD m 0 ∧ (numbersJ j).getD m 0 ≤ mostL.getD m 0
theorem goodJ_okAt (j : Journey) : goodJ j = true ↔ ∀ m, m < 10 → okAt j m := by
  rw [goodJ_iff]
  constructor
  · intro h
    refine ten ?_ ?_ ?_ ?_ ?_ ?_ ?_ ?_ ?_ ?_ <;> (show _ ≤ _ ∧ _ ≤ _; simp [leastL, mostL, numbersJ]; omega)
  · intro h
    have g0 : 1 ≤ j.op ∧ j.op ≤ 4 := h 0 (by omega)
    have g1 : 1 ≤ j.seq ∧ j.seq ≤ 2147483647 := h 1 (by omega)
    have g2 : 1 ≤ j.card ∧ j.card ≤ 65535 := h 2 (by omega)
    have g3 : 1 ≤ j.owner ∧ j.owner ≤ 4 := h 3 (by omega)
    have g4 : 1 ≤ j.id ∧ j.id ≤ 65535 := h 4 (by omega)
    have g5 : 1 ≤ j.kind ∧ j.kind ≤ 4 := h 5 (by omega)
    have g6 : 0 ≤ j.frm ∧ j.frm ≤ 255 := h 6 (by omega)
    have g7 : 0 ≤ j.to ∧ j.to ≤ 255 := h 7 (by omega)
    have g8 : 0 ≤ j.fare ∧ j.fare ≤ 2147483648 := h 8 (by omega)
    have g9 : 0 ≤ j.day ∧ j.day ≤ 65535 := h 9 (by omega)
    omega
def IRG (j : Journey) (i : Int) : Prop := ∃ m : Nat, m ≤ 10 ∧ i = m ∧ ∀ q, q < m → okAt j q
theorem not_goodJ {j : Journey} {m : Nat} (hm : m < 10) (h : (numbersJ j).getD m 0 < leastL.getD m 0 ∨ mostL.getD m 0 < (numbersJ j).getD m 0) : goodJ j = false := by
  rw [← Bool.not_eq_true]
  intro hc
  have := (goodJ_okAt j).1 hc m hm
  unfold okAt at this
  omega
theorem nums_pos {j : Journey} (h : goodJ j = true) {m : Nat} (hm : m < 10) : 0 ≤ (numbersJ j).getD m 0 ∧ (numbersJ j).getD m 0 ≤ 2147483648 := by
  have := (goodJ_okAt j).1 h m hm
  unfold okAt at this
  have h0 : 0 ≤ leastL.getD m 0 ∧ mostL.getD m 0 ≤ 2147483648 := (ten (P := fun m => 0 ≤ leastL.getD m 0 ∧ mostL.getD m 0 ≤ 2147483648) (by decide) (by decide) (by decide) (by decide) (by decide) (by decide) (by decide) (by decide) (by decide) (by decide)) m hm
  omega
theorem size_of : ∀ m, m < 10 → 0 ≤ sizesL.getD m 0 ∧ sizesL.getD m 0 ≤ 4 ∧ (sizesL.getD m 0).toNat = (widthsL.getD m 0).toNat / 8 ∧ 1 ≤ sizesL.getD m 0 := by
  refine ten ?_ ?_ ?_ ?_ ?_ ?_ ?_ ?_ ?_ ?_ <;> decide
def IRF (j : Journey) (i : Int) (out : List Int) : Prop := ∃ m : Nat, m ≤ 10 ∧ i = m ∧ out = bytesF ((fieldsJ j).take m)
def INum (b : List Int) (i n : Int) : Prop := ∃ j : Nat, j ≤ b.length ∧ i = j ∧ n = num (b.take j)
def IOne (b : List Int) (i : Int) (ns : List Int) (a : Int) : Prop := ∃ m : Nat, m ≤ 10 ∧ i = m ∧ ns = rd b (widthsL.take m) ∧ a = sumB (widthsL.take m)
theorem sumB_ten : ∀ m, m < 10 → (sumB (widthsL.take m) : Int) + sizesL.getD m 0 ≤ 19 ∧ sumB (widthsL.take (m + 1)) = sumB (widthsL.take m) + (sizesL.getD m 0).toNat ∧ widthsL.take (m + 1) = widthsL.take m ++ [widthsL.getD m 0] := by
  refine ten ?_ ?_ ?_ ?_ ?_ ?_ ?_ ?_ ?_ ?_ <;> decide
theorem rd_take : ∀ (ws : List Int) (bs : List Int) (n : Nat), sumB ws ≤ n → rd (bs.take n) ws = rd bs ws
  | [], _, _, _ => rfl
  | w :: ws, bs, n, h => by
    simp only [sumB] at h
    simp only [rd]
    rw [List.take_take, Nat.min_eq_left (by omega), List.drop_take, rd_take ws _ _ (by omega)]
theorem part_part {b : List Int} {i n a s : Nat} (h : a + s ≤ n) : (((b.drop i).take n).drop a).take s = (b.drop (i + a)).take s := by
  rw [List.drop_take, List.take_take, Nat.min_eq_left (by omega), List.drop_drop]
theorem parseJ_take (bs : List Int) : parseJ (bs.take 19) = parseJ bs := by
  unfold parseJ
  rw [rd_take _ _ _ (by decide)]
theorem parseJs_get {d : Journey} (n : Nat) : ∀ {b : List Int} {j : Nat}, j < n → (parseJs n b).getD j d = parseJ (b.drop (19 * j)) := by
  induction n with
  | zero => intro b j h; omega
  | succ n ih =>
    intro b j h
    cases j with
    | zero => simp only [parseJs, List.getD_cons_zero, Nat.mul_zero, List.drop_zero]
    | succ j =>
      simp only [parseJs, List.getD_cons_succ]
      rw [ih (by omega), List.drop_drop, show 19 + 19 * j = 19 * (j + 1) by omega]
def IRGet (b : List Int) (i : Int) (out : List Journey) : Prop := ∃ j : Nat, j ≤ b.length / 19 ∧ i = ((19 * j : Nat) : Int) ∧ out = parseJs j b ∧ good out = true
def ISame (a b : List Journey) (i : Int) : Prop := ∃ j : Nat, j ≤ a.length ∧ i = j ∧ a.take j = b.take j


end Go.Proofs.Ythbmllekbbfobaa.Sx
