import Derived.Test.YtncdakkigkmfjaaProg
import Derived.Test.YtncdakkigkmfjaaSxU
import Derived.IntWalk
import Derived.Test.YtncdakkigkmfjaaF1s3
/-! bits -/
namespace Go.Proofs.Ytncdakkigkmfjaa.Sx
open Go
set_option linter.unusedVariables false
set_option linter.unusedSimpArgs false
set_option maxRecDepth 100000


def num (bs : List Int) : Int := bs.foldl (fun a b => 256 * a + b) 0
theorem num_snoc (l : List Int) (b : Int) : num (l ++ [b]) = 256 * num l + b := by simp [num]
def isB (xs : List Int) : Prop := ∀ x ∈ xs, 0 ≤ x ∧ x < 256
theorem isB.take {l : List Int} (h : isB l) (n : Nat) : isB (l.take n) := fun x hx => h x (List.mem_of_mem_take hx)
theorem isB.drop {l : List Int} (h : isB l) (n : Nat) : isB (l.drop n) := fun x hx => h x (List.mem_of_mem_drop hx)
theorem isB.append {l r : List Int} (h : isB l) (k : isB r) : isB (l ++ r) := fun x hx => (List.mem_append.1 hx).elim (h x) (k x)
theorem isB.getD {l : List Int} (h : isB l) (n : Nat) : 0 ≤ l.getD n 0 ∧ l.getD n 0 < 256 := by
  by_cases e : n < l.length
  · exact h _ (mem_getD e)
  · simp [List.getD, List.getElem?_eq_none (by omega : l.length ≤ n)]
theorem be_isB : ∀ (k : Nat) (n : Int), isB (be k n)
  | 0, _ => fun x h => by simp [be] at h
  | k + 1, n => isB.append (be_isB k _) fun x h => by simp at h; omega
theorem take_succ {l : List Int} {n : Nat} (h : n < l.length) : l.take (n + 1) = l.take n ++ [l.getD n 0] := take_getD h
theorem num_div {l : List Int} (h : isB l) : ∀ (r : Nat), r ≤ l.length → num l / 2 ^ (8 * r) = num (l.take (l.length - r))
  | 0, _ => by simp
  | r + 1, hr => by
    rw [pow_mul (show 8 * (r + 1) = 8 * r + 8 by omega), ← Int.ediv_ediv_of_nonneg (Int.le_of_lt (two_pos _)), num_div h r (by omega)]
    obtain ⟨m, hm⟩ : ∃ m, l.length - r = m + 1 := ⟨l.length - r - 1, by omega⟩
    rw [hm, take_succ (by omega), num_snoc, show l.length - (r + 1) = m by omega]
    have := h.getD m
    simp only [Int.reducePow]
    omega
theorem num_lt {l : List Int} (h : isB l) : 0 ≤ num l ∧ num l < 2 ^ (8 * l.length) := by
  have e := num_div h l.length (Nat.le_refl _)
  rw [Nat.sub_self, List.take_zero, show num [] = 0 from rfl] at e
  have h2 := two_pos (8 * l.length)
  have := Int.emod_nonneg (num l) (Int.ne_of_gt h2)
  have h3 := Int.emod_lt_of_pos (num l) h2
  have h4 := Int.mul_ediv_add_emod (num l) (2 ^ (8 * l.length))
  rw [e] at h4
  simp at h4
  omega
theorem rd_bit {l : List Int} (h : isB l) {j : Nat} (hj : j < 8 * l.length) : l.getD (j / 8) 0 / 2 ^ (7 - j % 8) % 2 = bitOf (num l) (8 * l.length - (j + 1)) := by
  unfold bitOf
  rw [pow_mul (show 8 * l.length - (j + 1) = 8 * (l.length - j / 8 - 1) + (7 - j % 8) by omega), ← Int.ediv_ediv_of_nonneg (Int.le_of_lt (two_pos _)), num_div h _ (by omega), show l.length - (l.length - j / 8 - 1) = j / 8 + 1 by omega, take_succ (by omega), num_snoc]
  have := h.getD (j / 8)
  generalize l.getD (j / 8) 0 = b at *
  generalize num (l.take (j / 8)) = a
  have hm : j % 8 = 0 ∨ j % 8 = 1 ∨ j % 8 = 2 ∨ j % 8 = 3 ∨ j % 8 = 4 ∨ j % 8 = 5 ∨ j % 8 = 6 ∨ j % 8 = 7 := by omega
  rcases hm with e | e | e | e | e | e | e | e <;> rw [e] <;> simp only [Nat.reduceSub, Int.reducePow] <;> omega
def rd : List Int → List Int → List Int
  | _, [] => []
  | bs, w :: ws => num (bs.take (w.toNat / 8)) :: rd (bs.drop (w.toNat / 8)) ws
def sumB : List Int → Nat
  | [] => 0
  | w :: ws => w.toNat / 8 + sumB ws
theorem rd_snoc : ∀ (ws : List Int) (bs : List Int) (w : Int), rd bs (ws ++ [w]) = rd bs ws ++ [num ((bs.drop (sumB ws)).take (w.toNat / 8))]
  | [], bs, w => by simp [rd, sumB]
  | v :: ws, bs, w => by simp [rd, sumB, rd_snoc ws, List.drop_drop, Nat.add_comm]
theorem rd_length : ∀ (ws bs : List Int), (rd bs ws).length = ws.length
  | [], _ => rfl
  | w :: ws, bs => by simp [rd, rd_length ws]
def okW (ws : List Int) : Bool := ws.all fun w => decide (1 ≤ w) && decide (w ≤ 32)
def takeE (len : Nat) (at_ e : Int) (ws : List Int) : Int := if e ≠ 0 then e else if okW ws = false then 2 else if 8 * len - at_ < ws.sum then 10 else 0
def takeN (b : List Int) (at_ e : Int) (ws : List Int) : List Int := if takeE b.length at_ e ws = 0 then rd (b.drop (at_ / 8).toNat) ws else []
def takeAt (len : Nat) (at_ e : Int) (ws : List Int) : Int := if takeE len at_ e ws = 0 then at_ + ws.sum else at_
theorem sum_take {ws : List Int} {j : Nat} (hj : j < ws.length) : (ws.take (j + 1)).sum = (ws.take j).sum + ws.getD j 0 := by
  rw [take_succ hj]; simp
theorem okW_take {ws : List Int} {j : Nat} (hj : j < ws.length) : okW (ws.take (j + 1)) = (okW (ws.take j) && (decide (1 ≤ ws.getD j 0) && decide (ws.getD j 0 ≤ 32))) := by
  rw [take_succ hj]; simp [okW]
theorem okW_sum : ∀ {ws : List Int}, okW ws = true → 0 ≤ ws.sum ∧ ws.sum ≤ 32 * ws.length
  | [], _ => by simp
  | w :: ws, h => by
    simp only [okW, List.all_cons, Bool.and_eq_true, decide_eq_true_eq] at h
    have := okW_sum (ws := ws) h.2
    simp only [List.sum_cons, List.length_cons]
    omega
theorem sumB_sum : ∀ {ws : List Int}, okW ws = true → (∀ w ∈ ws, w % 8 = 0) → ws.sum = 8 * sumB ws
  | [], _, _ => by simp [sumB]
  | w :: ws, h, h8 => by
    simp only [okW, List.all_cons, Bool.and_eq_true, decide_eq_true_eq] at h
    have := sumB_sum (ws := ws) h.2 fun x hx => h8 x (List.mem_cons_of_mem _ hx)
    have := h8 w (by simp)
    simp only [List.sum_cons, sumB]
    omega
theorem okW_pre {ws : List Int} {j : Nat} (h : okW ws = true) : okW (ws.take j) = true := by
  simp only [okW, List.all_eq_true] at *
  exact fun x hx => h x (List.mem_of_mem_take hx)
theorem sum_pre {ws : List Int} {j : Nat} (h : okW ws = true) (hj : j < ws.length) : (ws.take j).sum + ws.getD j 0 ≤ ws.sum := by
  rw [← sum_take hj]
  have h1 : ws = ws.take (j + 1) ++ ws.drop (j + 1) := (List.take_append_drop _ _).symm
  have h2 : okW (ws.drop (j + 1)) = true := by
    simp only [okW, List.all_eq_true] at *
    exact fun x hx => h x (List.mem_of_mem_drop hx)
  have := (okW_sum h2).1
  have h3 : ws.sum = (ws.take (j + 1)).sum + (ws.drop (j + 1)).sum := by rw [← List.sum_append, List.take_append_drop]
  omega
theorem okW_get {ws : List Int} {j : Nat} (h : okW ws = true) (hj : j < ws.length) : 1 ≤ ws.getD j 0 ∧ ws.getD j 0 ≤ 32 := by
  have := all_getD (d := (0 : Int)) (show ws.all _ = true from h) hj
  simpa using this
theorem getD_take_drop {b : List Int} {p m i : Nat} (hi : i < m) : ((b.drop p).take m).getD i 0 = b.getD (p + i) 0 := by
  unfold List.getD
  rw [List.getElem?_take, if_pos hi, List.getElem?_drop]
theorem take_at {b ws : List Int} {a : Int} {j : Nat} (h8 : a % 8 = 0) (h0 : 0 ≤ a) (ho : okW ws = true) (hw8 : ∀ w ∈ ws, w % 8 = 0) (hs : ws.sum ≤ 8 * b.length - a) (hj : j < ws.length) :
    ∃ p m : Nat, a + (ws.take j).sum = ((8 * p : Nat) : Int) ∧ ws.getD j 0 = ((8 * m : Nat) : Int) ∧ 1 ≤ m ∧ m ≤ 4 ∧ p + m ≤ b.length ∧ p = (a / 8).toNat + sumB (ws.take j) ∧ ((b.drop p).take m).length = m ∧ ∀ i, i < m → ((b.drop p).take m).getD i 0 = b.getD (p + i) 0 := by
  have h1 := okW_get ho hj
  have h2 := hw8 _ (mem_getD (d := (0 : Int)) hj)
  have h3 := sum_pre ho hj
  have h4 := sumB_sum (okW_pre (j := j) ho) fun w hw => hw8 w (List.mem_of_mem_take hw)
  refine ⟨(a / 8).toNat + sumB (ws.take j), (ws.getD j 0).toNat / 8, by omega, by omega, by omega, by omega, by omega, rfl, ?_, ?_⟩
  · rw [List.length_take, List.length_drop]; omega
  · exact fun i hi => getD_take_drop hi
def IT1 (ws : List Int) (i s : Int) : Prop := ∃ j : Nat, j ≤ ws.length ∧ i = j ∧ okW (ws.take j) = true ∧ s = (ws.take j).sum
def IT2 (b : List Int) (a : Int) (ws : List Int) (i : Int) (ns : List Int) (at_ : Int) : Prop := ∃ j : Nat, j ≤ ws.length ∧ i = j ∧ ns = rd (b.drop (a / 8).toNat) (ws.take j) ∧ at_ = a + (ws.take j).sum
def IT3 (l : List Int) (a i n at_ : Int) : Prop := ∃ k : Nat, k ≤ 8 * l.length ∧ i = k ∧ n = num l / 2 ^ (8 * l.length - k) ∧ at_ = a + k
/-- A bit is read. -/
theorem take_bit {l : List Int} (h : isB l) (hl : l.length ≤ 4) {k : Nat} (hk : k < 8 * l.length) {x : Int} (hx : x = l.getD (k / 8) 0) {sh : Nat} (hs : sh = 7 - k % 8) :
    IntKind.i64.wrap ↑(BitVec.ofInt IntKind.i64.bits (IntKind.i64.wrap (num l / 2 ^ (8 * l.length - k) * 2 ^ min 1 IntKind.i64.bits)) ||| BitVec.ofInt IntKind.i64.bits (IntKind.i64.wrap (IntKind.u8.wrap ↑(BitVec.ofInt IntKind.u8.bits (x.fdiv (2 ^ min sh IntKind.u8.bits)) &&& BitVec.ofInt IntKind.u8.bits 1).toNat))).toNat = num l / 2 ^ (8 * l.length - (k + 1)) := by
  subst hx hs
  have hb := h.getD (k / 8)
  have h2 := two_pos (7 - k % 8)
  have hr := rd_bit h hk
  rw [Int.fdiv_eq_ediv_of_nonneg _ (Int.le_of_lt (two_pos _)), show min (7 - k % 8) IntKind.u8.bits = 7 - k % 8 by simp [IntKind.bits]; omega]
  have h0 : 0 ≤ l.getD (k / 8) 0 / 2 ^ (7 - k % 8) := Int.ediv_nonneg hb.1 (Int.le_of_lt h2)
  have h1 : l.getD (k / 8) 0 / 2 ^ (7 - k % 8) ≤ l.getD (k / 8) 0 := Int.ediv_le_self _ hb.1
  have ht : bitOf (num l) (8 * l.length - (k + 1)) = 0 ∨ bitOf (num l) (8 * l.length - (k + 1)) = 1 := by unfold bitOf; omega
  change IntKind.i64.wrap ↑(BitVec.ofInt 64 (IntKind.i64.wrap (num l / 2 ^ (8 * l.length - k) * 2 ^ min 1 IntKind.i64.bits)) ||| BitVec.ofInt 64 (IntKind.i64.wrap (IntKind.u8.wrap ↑(BitVec.ofInt 8 (l.getD (k / 8) 0 / 2 ^ (7 - k % 8)) &&& BitVec.ofInt 8 1).toNat))).toNat = _
  rw [bv_and1 h0 (show _ < (2 : Int) ^ 8 by simp only [Int.reducePow]; omega) (by decide)]
  rw [show ((((l.getD (k / 8) 0 / 2 ^ (7 - k % 8)).toNat % 2 : Nat)) : Int) = l.getD (k / 8) 0 / 2 ^ (7 - k % 8) % 2 by omega, hr]
  have hh := half_step (num l) (8 * l.length - (k + 1))
  rw [show 8 * l.length - (k + 1) + 1 = 8 * l.length - k by omega] at hh
  have hN := num_lt h
  have hd : 0 ≤ num l / 2 ^ (8 * l.length - k) ∧ num l / 2 ^ (8 * l.length - k) < 4294967296 := by
    refine ⟨Int.ediv_nonneg hN.1 (Int.le_of_lt (two_pos _)), ?_⟩
    have := Int.ediv_le_self (2 ^ (8 * l.length - k)) hN.1
    have hp : (2 : Int) ^ (8 * l.length) ≤ 4294967296 := by
      have : l.length = 0 ∨ l.length = 1 ∨ l.length = 2 ∨ l.length = 3 ∨ l.length = 4 := by omega
      rcases this with e | e | e | e | e <;> rw [e] <;> simp
    have := Int.ediv_le_self (2 ^ (8 * l.length - k)) hN.1
    omega
  rw [hh]
  generalize bitOf (num l) (8 * l.length - (k + 1)) = t at *
  generalize num l / 2 ^ (8 * l.length - k) = n at *
  have e1 : IntKind.i64.wrap (n * 2 ^ min 1 IntKind.i64.bits) = 2 * n := by rw [show min 1 IntKind.i64.bits = 1 from rfl, wrap64 (by omega) (by omega)]; omega
  have e2 : IntKind.i64.wrap (IntKind.u8.wrap t) = t := by rcases ht with rfl | rfl <;> rfl
  rw [e1, e2, bv_or (by omega) (by omega) (show _ < (2 : Int) ^ 64 by simp only [Int.reducePow]; omega) (show _ < (2 : Int) ^ 64 by simp only [Int.reducePow]; omega)]
  have e3 : ((2 * n).toNat ||| t.toNat : Nat) = 2 ^ 1 * n.toNat + t.toNat := by
    rw [Nat.two_pow_add_eq_or_of_lt (by omega)]
    congr 1
    omega
  rw [e3, wrap64 (by omega) (by omega)]
  omega


end Go.Proofs.Ytncdakkigkmfjaa.Sx
