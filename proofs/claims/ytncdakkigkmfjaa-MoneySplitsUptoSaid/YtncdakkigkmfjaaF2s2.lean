import Derived.Test.YtncdakkigkmfjaaProg
import Derived.Test.YtncdakkigkmfjaaSxU
import Derived.IntWalk
import Derived.Test.YtncdakkigkmfjaaF2s1
/-! fare -/
namespace Go.Proofs.Ytncdakkigkmfjaa.Sx
open Go
set_option linter.unusedVariables false
set_option linter.unusedSimpArgs false
set_option maxRecDepth 100000


def scanJ (op : Int) : Int → List Journey → Int → Int × Int
  | last, [], _ => (-1, last)
  | last, j :: l, i => if j.op ≠ op ∨ j.seq ≤ last then (i, j.seq) else scanJ op j.seq l (i + 1)
def rightB (x : Batch) : Bool := inR 1 4 [x.op] && inR 1 2147483647 [x.n] && inR 1 8 [(x.js.length : Int)] && good x.js && decide ((scanJ x.op 0 x.js 0).1 < 0)
def zB : Batch := ⟨0, 0, []⟩
def putBE (x : Batch) : Int := if rightB x then 0 else 2
def putBB (x : Batch) : List Int := if rightB x then be 1 x.op ++ be 4 x.n ++ be 1 x.js.length ++ form x.js else []
def headL (b : List Int) : List Int := takeN b 0 0 [8, 32, 8]
def batchOf (b : List Int) : Batch := ⟨(headL b).getD 0 0, (headL b).getD 1 0, getJ (b.drop 6)⟩
def getBE (b : List Int) : Int := if b.length < 6 ∨ (b.length : Int) < 6 + 19 * b.getD 5 0 then 10 else if (b.length : Int) > 6 + 19 * b.getD 5 0 then 14 else if rightB (batchOf b) then 0 else 12
def getB (b : List Int) : Batch := if getBE b = 0 then batchOf b else zB
def ISc (op : Int) (js : List Journey) (i last : Int) : Prop := ∃ j : Nat, j ≤ js.length ∧ i = j ∧ scanJ op last (js.drop j) j = scanJ op 0 js 0
def sumGo : Int → List Int → Option Int
  | a, [] => some a
  | a, n :: l => if -9223372036854775808 ≤ a + n ∧ a + n ≤ 9223372036854775807 then sumGo (a + n) l else none
def sumE (ns : List Int) : Int := if (sumGo 0 ns).isSome then 0 else 29
def sumV (ns : List Int) : Int := (sumGo 0 ns).getD 0
def ISum (ns : List Int) (i s : Int) : Prop := ∃ j : Nat, j ≤ ns.length ∧ i = j ∧ sumGo s (ns.drop j) = sumGo 0 ns ∧ -9223372036854775808 ≤ s ∧ s ≤ 9223372036854775807
theorem sumGo_sum : ∀ {ns : List Int} {a : Int}, (∀ n ∈ ns, 0 ≤ n ∧ n ≤ 2147483648) → 0 ≤ a → a + 2147483648 * ns.length ≤ 9223372036854775807 → sumGo a ns = some (a + ns.sum)
  | [], a, _, _, _ => by simp [sumGo]
  | n :: l, a, h, h0, h1 => by
    have hn := h n (by simp)
    simp only [List.length_cons] at h1
    simp only [sumGo, List.sum_cons]
    rw [if_pos (by omega), sumGo_sum (fun x hx => h x (by simp [hx])) (by omega) (by omega)]
    congr 1
    omega
def totE (js : List Journey) : Int := if good js then 0 else 2
def totV (js : List Journey) : Int := if good js then (js.map (·.fare)).sum else 0
def ITot (js : List Journey) (i : Int) (ns : List Int) : Prop := ∃ j : Nat, j ≤ js.length ∧ i = j ∧ ns = (js.take j).map (·.fare)
theorem isum_more {ns : List Int} {i s : Int} (h : ISum ns i s) (hL : ns.length ≤ 1099511627776) (hR : ∀ n ∈ ns, -9223372036854775808 ≤ n ∧ n ≤ 9223372036854775807) (hlt : i < ns.length) :
    (sumGo 0 ns = none ∧ ((0 < ns.getD i.toNat 0 ∧ IntKind.i64.wrap (s + ns.getD i.toNat 0) < s) ∨ (ns.getD i.toNat 0 < 0 ∧ s < IntKind.i64.wrap (s + ns.getD i.toNat 0)))) ∨
    (IntKind.i64.wrap (s + ns.getD i.toNat 0) = s + ns.getD i.toNat 0 ∧ ISum ns (IntKind.i64.wrap (i + 1)) (IntKind.i64.wrap (s + ns.getD i.toNat 0)) ∧ ns.length - (IntKind.i64.wrap (i + 1)).toNat < ns.length - i.toNat) := by
  obtain ⟨j, hj, rfl, hs, hlo, hhi⟩ := h
  simp only [Int.toNat_natCast]
  have hlt' : j < ns.length := by omega
  have hx := hR _ (mem_getD (d := (0 : Int)) hlt')
  rw [drop_getD (d := (0 : Int)) hlt'] at hs
  simp only [sumGo] at hs
  generalize ns.getD j 0 = x at *
  have e2 : IntKind.i64.wrap ((j : Int) + 1) = ((j + 1 : Nat) : Int) := by rw [wrap64] <;> omega
  by_cases hc : -9223372036854775808 ≤ s + x ∧ s + x ≤ 9223372036854775807
  · right
    rw [if_pos hc] at hs
    rw [wrap64 hc.1 hc.2, e2]
    exact ⟨rfl, ⟨j + 1, by omega, rfl, hs, hc.1, hc.2⟩, by omega⟩
  · left
    rw [if_neg hc] at hs
    rw [IntKind.wrap_i64]
    exact ⟨hs.symm, by omega⟩
theorem isc_more {op : Int} {js : List Journey} {i last : Int} (h : ISc op js i last) (hL : js.length ≤ 1099511627776) (hlt : i < js.length) :
    ((decide ((js.getD i.toNat ⟨0, 0, 0, 0, 0, 0, 0, 0, 0, 0⟩).op ≠ op) || decide ((js.getD i.toNat ⟨0, 0, 0, 0, 0, 0, 0, 0, 0, 0⟩).seq ≤ last)) = true → scanJ op 0 js 0 = (i, (js.getD i.toNat ⟨0, 0, 0, 0, 0, 0, 0, 0, 0, 0⟩).seq)) ∧
    ((decide ((js.getD i.toNat ⟨0, 0, 0, 0, 0, 0, 0, 0, 0, 0⟩).op ≠ op) || decide ((js.getD i.toNat ⟨0, 0, 0, 0, 0, 0, 0, 0, 0, 0⟩).seq ≤ last)) = false → ISc op js (IntKind.i64.wrap (i + 1)) (js.getD i.toNat ⟨0, 0, 0, 0, 0, 0, 0, 0, 0, 0⟩).seq ∧ js.length - (IntKind.i64.wrap (i + 1)).toNat < js.length - i.toNat) := by
  obtain ⟨j, hj, rfl, hs⟩ := h
  simp only [Int.toNat_natCast]
  have hlt' : j < js.length := by omega
  rw [drop_getD (d := (⟨0, 0, 0, 0, 0, 0, 0, 0, 0, 0⟩ : Journey)) hlt'] at hs
  simp only [scanJ] at hs
  have e2 : IntKind.i64.wrap ((j : Int) + 1) = ((j + 1 : Nat) : Int) := by rw [wrap64] <;> omega
  rw [e2]
  refine ⟨fun hc => ?_, fun hc => ?_⟩
  · rw [Bool.or_eq_true, decide_eq_true_eq, decide_eq_true_eq] at hc
    rw [if_pos hc] at hs
    exact hs.symm
  · rw [Bool.or_eq_false_iff, decide_eq_false_iff_not, decide_eq_false_iff_not] at hc
    rw [if_neg (fun h => h.elim hc.1 hc.2)] at hs
    exact ⟨⟨j + 1, by omega, rfl, hs⟩, by omega⟩
theorem scanJ_end {op : Int} {js : List Journey} {i last : Int} (h : ISc op js i last) (hlt : js.length ≤ i) : scanJ op 0 js 0 = (-1, last) := by
  obtain ⟨j, hj, rfl, hs⟩ := h
  obtain rfl : j = js.length := by omega
  rw [List.drop_length] at hs
  exact hs.symm
theorem rightB_iff (x : Batch) : rightB x = true ↔ (1 ≤ x.op ∧ x.op ≤ 4) ∧ (1 ≤ x.n ∧ x.n ≤ 2147483647) ∧ (1 ≤ x.js.length ∧ x.js.length ≤ 8) ∧ good x.js = true ∧ (scanJ x.op 0 x.js 0).1 < 0 := by
  simp only [rightB, Bool.and_eq_true, decide_eq_true_eq, inR_iff, List.mem_singleton, forall_eq]
  exact ⟨fun ⟨⟨⟨⟨h1, h2⟩, h3⟩, h4⟩, h5⟩ => ⟨h1, h2, by omega, h4, h5⟩, fun ⟨h1, h2, h3, h4, h5⟩ => ⟨⟨⟨⟨h1, h2⟩, by omega⟩, h4⟩, h5⟩⟩
theorem put3 {x : Batch} (h : rightB x = true) : putB [] [⟨8, x.op⟩, ⟨32, x.n⟩, ⟨8, (x.js.length : Int)⟩] = be 1 x.op ++ be 4 x.n ++ be 1 x.js.length := by
  obtain ⟨h1, h2, h3, h4, h5⟩ := (rightB_iff x).1 h
  have e1 : (2 : Int) ^ (8 : Int).toNat = 256 := rfl
  have e3 : (2 : Int) ^ (32 : Int).toNat = 4294967296 := rfl
  unfold putB
  rw [if_pos]
  · simp [bytesF]
  · simp only [rightF, List.all_cons, List.all_nil, Bool.and_eq_true, decide_eq_true_eq, e1, e3, and_true]
    omega
theorem one_byte {l : List Int} {n : Nat} (h : n < l.length) : num ((l.drop n).take 1) = l.getD n 0 := by
  rw [List.drop_eq_getElem_cons h, List.take_succ_cons, List.take_zero]
  simp [num, List.getD, h]
theorem headC (b : List Int) : (b.length < 6 ∧ headL b = []) ∨ (6 ≤ b.length ∧ (headL b).length = 3 ∧ (headL b).getD 2 0 = b.getD 5 0) := by
  by_cases h : b.length < 6
  · left
    refine ⟨h, ?_⟩
    have : takeE b.length 0 0 [8, 32, 8] = 10 := by
      unfold takeE
      rw [if_neg (by simp), if_neg (by decide), if_pos (by rw [show ([8, 32, 8] : List Int).sum = 48 from rfl]; omega)]
    unfold headL takeN
    rw [this, if_neg (by decide)]
  · right
    have : takeE b.length 0 0 [8, 32, 8] = 0 := by
      unfold takeE
      rw [if_neg (by simp), if_neg (by decide), if_neg (by rw [show ([8, 32, 8] : List Int).sum = 48 from rfl]; omega)]
    have e : headL b = rd b [8, 32, 8] := by unfold headL takeN; rw [if_pos this]; rfl
    refine ⟨by omega, by rw [e, rd_length]; rfl, ?_⟩
    rw [e, ← one_byte (l := b) (n := 5) (by omega)]
    simp [rd, List.drop_drop]
theorem w3 : ∀ w ∈ ([8, 32, 8] : List Int), w % 8 = 0 := by decide
theorem getJ_length (b : List Int) : (getJ b).length ≤ b.length := by
  unfold getJ
  split
  · rw [parseJs_length]; omega
  · simp
theorem fares_in {js : List Journey} (h : good js = true) : ∀ n ∈ js.map (·.fare), 0 ≤ n ∧ n ≤ 2147483648 := by
  intro n hn
  obtain ⟨j, hj, rfl⟩ := List.mem_map.1 hn
  have := (goodJ_iff j).1 (List.all_eq_true.1 h j hj)
  omega


end Go.Proofs.Ytncdakkigkmfjaa.Sx
