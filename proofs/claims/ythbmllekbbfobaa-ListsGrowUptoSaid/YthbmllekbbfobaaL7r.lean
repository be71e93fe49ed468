import Derived.Test.YthbmllekbbfobaaProg
import Derived.Test.YthbmllekbbfobaaSxU
import Derived.IntWalk
import Derived.Test.YthbmllekbbfobaaL6
/-! fareboxref12, Put and Get -/
namespace Go.Proofs.Ythbmllekbbfobaa.Sx
open Go
set_option linter.unusedVariables false
set_option linter.unusedSimpArgs false
set_option maxRecDepth 100000

theorem four_eq {n : Int} (h : 0 ≤ n) (h' : n < 4294967296) : [IntKind.u8.wrap (IntKind.i64.wrap (n.tdiv 16777216)), IntKind.u8.wrap (IntKind.i64.wrap (n.tdiv 65536)), IntKind.u8.wrap (IntKind.i64.wrap (n.tdiv 256)), IntKind.u8.wrap n] = be 4 n := by
  have e : ∀ k : Int, 0 < k → n.tdiv k = n / k := fun k hk => Int.tdiv_eq_ediv_of_nonneg h
  rw [e _ (by decide), e _ (by decide), e _ (by decide), wrap64 (by omega) (by omega), wrap64 (by omega) (by omega), wrap64 (by omega) (by omega)]
  simp only [be, List.nil_append, List.cons_append, IntKind.wrap_u8]
  rw [show n / 16777216 = n / 256 / 256 / 256 by omega, show n / 65536 = n / 256 / 256 by omega]
theorem num4 {b : List Int} (hB : isB b) (h : 4 ≤ b.length) : num (b.take 4) = ((b.getD 0 0 * 256 + b.getD 1 0) * 256 + b.getD 2 0) * 256 + b.getD 3 0 := by
  match b, h with
  | a :: c :: d :: e :: r, _ => simp [num, List.getD]; omega
theorem w01 : IntKind.i64.wrap (0 + 1) = 1 := by decide
theorem w11 : IntKind.i64.wrap (1 + 1) = 2 := by decide
theorem w21 : IntKind.i64.wrap (2 + 1) = 3 := by decide
theorem w31 : IntKind.i64.wrap (3 + 1) = 4 := by decide
theorem w41 : IntKind.i64.wrap (4 + 1) = 5 := by decide
theorem numsI_length (x : Item) : (numsI x).length = 5 := rfl
theorem numsI_0 (x : Item) : (numsI x).getD 0 0 = x.card := rfl
theorem numsI_1 (x : Item) : (numsI x).getD 1 0 = x.owner := rfl
theorem numsI_2 (x : Item) : (numsI x).getD 2 0 = x.id := rfl
theorem numsI_3 (x : Item) : (numsI x).getD 3 0 = x.number := rfl
theorem numsI_4 (x : Item) : (numsI x).getD 4 0 = x.amount := rfl
theorem getD_l {α : Type} {a b : List α} {j : Nat} {d : α} (h : j < a.length) : a.getD j d = (a ++ b).getD j d := by
  simp [List.getD, List.getElem?_append_left h]
theorem getD_r {α : Type} {a b : List α} {j : Nat} {d : α} (h : a.length ≤ j) : b.getD (j - a.length) d = (a ++ b).getD j d := by
  simp [List.getD, List.getElem?_append_right h]
theorem bytesI_eq (x : Item) : bytesF (fieldsI x) = be 4 x.card ++ be 4 x.owner ++ be 4 x.id ++ be 4 x.number ++ be 4 x.amount := by
  simp [bytesF, fieldsI]
theorem putDE_bad {to : Int} {add off : List Item} {j : Nat} (h : 1 ≤ to) (h' : to ≤ 2147483647) (hj : j < (add ++ off).length) (hb : badI ((add ++ off).getD j ⟨0, 0, 0, 0, 0⟩) = true) : putDE to add off = 2 := by
  unfold putDE; rw [if_neg (by omega), if_pos (any_getD hj hb)]
theorem badI_out {x : Item} (h : (x.card < 0 ∨ 2147483648 < x.card) ∨ (x.owner < 0 ∨ 2147483648 < x.owner) ∨ (x.id < 0 ∨ 2147483648 < x.id) ∨ (x.number < 0 ∨ 2147483648 < x.number) ∨ (x.amount < 0 ∨ 2147483648 < x.amount)) : badI x = true := by
  rw [← Bool.not_eq_false]
  intro hc
  have := badI_iff.1 hc
  omega
theorem head_be {to : Int} {n m : Nat} (hn : n ≤ 64) (hm : m ≤ 64) : be 4 to ++ [IntKind.u8.wrap n, IntKind.u8.wrap m] = bytesF [⟨32, to⟩, ⟨8, n⟩, ⟨8, m⟩] := by
  rw [wrapU8 (by omega) (by omega), wrapU8 (by omega) (by omega)]
  simp [bytesF, be]
  omega
theorem m40 : IntKind.i64.wrap (4 * 0) = 0 := by decide
theorem m41 : IntKind.i64.wrap (4 * 1) = 4 := by decide
theorem m42 : IntKind.i64.wrap (4 * 2) = 8 := by decide
theorem m43 : IntKind.i64.wrap (4 * 3) = 12 := by decide
theorem m44 : IntKind.i64.wrap (4 * 4) = 16 := by decide
theorem take4 {b : List Int} {n m p j k : Nat} (hm : p - n - k = m) (hn : n + k = j) (h : 4 ≤ m) : List.take 4 (List.take (p - n - k) (List.drop (n + k) b)) = List.take 4 (List.drop j b) := by
  rw [hm, hn, List.take_take, Nat.min_eq_left h]
theorem getDE_short {b : List Int} (h : 6 ≤ b.length) (h0 : 1 ≤ (headD b).getD 0 0) (h1 : (headD b).getD 0 0 ≤ 2147483647) (h2 : (headD b).getD 1 0 ≤ 64) (h3 : (headD b).getD 2 0 ≤ 64) (hl : (b.length : Int) < 6 + 20 * cntD b) : getDE b = 10 := by
  unfold getDE; rw [if_neg (by omega), if_neg (by omega), if_pos hl]
theorem getDE_long {b : List Int} (h : 6 ≤ b.length) (h0 : 1 ≤ (headD b).getD 0 0) (h1 : (headD b).getD 0 0 ≤ 2147483647) (h2 : (headD b).getD 1 0 ≤ 64) (h3 : (headD b).getD 2 0 ≤ 64) (hl : (b.length : Int) > 6 + 20 * cntD b) : getDE b = 14 := by
  unfold getDE; rw [if_neg (by omega), if_neg (by omega), if_neg (by omega), if_pos hl]
theorem getDE_fine {b : List Int} (h : 6 ≤ b.length) (h0 : 1 ≤ (headD b).getD 0 0) (h1 : (headD b).getD 0 0 ≤ 2147483647) (h2 : (headD b).getD 1 0 ≤ 64) (h3 : (headD b).getD 2 0 ≤ 64) (hl : (b.length : Int) = 6 + 20 * cntD b) (hb : (itemsAt (cntD b) (b.drop 6)).any badI = false) : getDE b = 0 := by
  unfold getDE; rw [if_neg (by omega), if_neg (by omega), if_neg (by omega), if_neg (by omega), if_neg (by rw [hb]; simp)]
theorem heads {b : List Int} (h6 : 6 ≤ b.length) : num (b.take 4) = (headD b).getD 0 0 ∧ b.getD 4 0 = (headD b).getD 1 0 ∧ b.getD 5 0 = (headD b).getD 2 0 := by
  rw [headD_eq h6]; exact ⟨rfl, rfl, rfl⟩
def IRP (to : Int) (n m : Nat) (l : List Item) (i : Int) (out : List Int) : Prop := ∃ j : Nat, j ≤ l.length ∧ i = j ∧ out = be 4 to ++ [IntKind.u8.wrap n, IntKind.u8.wrap m] ++ formIs (l.take j) ∧ (l.take j).any badI = false
def IRG (b : List Int) (n : Nat) (i : Int) (l : List Item) : Prop := ∃ j : Nat, j ≤ n ∧ i = j ∧ l = itemsAt j (b.drop 6) ∧ (itemsAt j (b.drop 6)).any badI = false


end Go.Proofs.Ythbmllekbbfobaa.Sx
