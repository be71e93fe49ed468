import Derived.Test.YthbmllekbbfobaaProg
import Derived.Test.YthbmllekbbfobaaSxU
import Derived.IntWalk
import Derived.Test.YthbmllekbbfobaaF1
/-! fare -/
namespace Go.Proofs.Ythbmllekbbfobaa.Sx
open Go
set_option linter.unusedVariables false
set_option linter.unusedSimpArgs false
set_option maxRecDepth 100000


def inR (lo hi : Int) (ns : List Int) : Bool := ns.all fun n => decide (lo ≤ n) && decide (n ≤ hi)
def goodJ (j : Journey) : Bool := inR 1 4 [j.op, j.owner] && inR 1 2147483647 [j.seq] && inR 1 65535 [j.card, j.id] && inR 1 4 [j.kind] && inR 0 255 [j.frm, j.to] && inR 0 2147483648 [j.fare] && inR 0 65535 [j.day]
def good (js : List Journey) : Bool := js.all goodJ
def widthsL : List Int := [8, 32, 16, 8, 16, 8, 8, 8, 32, 16]
def numbersJ (j : Journey) : List Int := [j.op, j.seq, j.card, j.owner, j.id, j.kind, j.frm, j.to, j.fare, j.day]
def fieldsJ (j : Journey) : List FieldT := [⟨8, j.op⟩, ⟨32, j.seq⟩, ⟨16, j.card⟩, ⟨8, j.owner⟩, ⟨16, j.id⟩, ⟨8, j.kind⟩, ⟨8, j.frm⟩, ⟨8, j.to⟩, ⟨32, j.fare⟩, ⟨16, j.day⟩]
def formJ (j : Journey) : List Int := bytesF (fieldsJ j)
def form (js : List Journey) : List Int := js.flatMap formJ
def putJE (js : List Journey) : Int := if good js then 0 else 2
def putJ (js : List Journey) : List Int := if good js then form js else []
theorem formJ_length (j : Journey) : (formJ j).length = 19 := by simp [formJ, fieldsJ, bytesF, be_length]
theorem form_length : ∀ (js : List Journey), (form js).length = 19 * js.length
  | [] => rfl
  | j :: js => by
    have := form_length js
    simp only [form, List.flatMap_cons, List.length_append, formJ_length, List.length_cons] at *
    omega
theorem form_snoc (js : List Journey) (j : Journey) : form (js ++ [j]) = form js ++ formJ j := by simp [form]
theorem inR_iff {lo hi : Int} {ns : List Int} : inR lo hi ns = true ↔ ∀ n ∈ ns, lo ≤ n ∧ n ≤ hi := by simp [inR]
theorem goodJ_iff (j : Journey) : goodJ j = true ↔ (1 ≤ j.op ∧ j.op ≤ 4) ∧ (1 ≤ j.owner ∧ j.owner ≤ 4) ∧ (1 ≤ j.seq ∧ j.seq ≤ 2147483647) ∧ (1 ≤ j.card ∧ j.card ≤ 65535) ∧ (1 ≤ j.id ∧ j.id ≤ 65535) ∧ (1 ≤ j.kind ∧ j.kind ≤ 4) ∧ (0 ≤ j.frm ∧ j.frm ≤ 255) ∧ (0 ≤ j.to ∧ j.to ≤ 255) ∧ (0 ≤ j.fare ∧ j.fare ≤ 2147483648) ∧ (0 ≤ j.day ∧ j.day ≤ 65535) := by
  simp [goodJ, inR_iff]
  omega
theorem fieldsJ_right {j : Journey} (h : goodJ j = true) : (fieldsJ j).all rightF = true := by
  rw [goodJ_iff] at h
  have e1 : (2 : Int) ^ (8 : Int).toNat = 256 := rfl
  have e2 : (2 : Int) ^ (16 : Int).toNat = 65536 := rfl
  have e3 : (2 : Int) ^ (32 : Int).toNat = 4294967296 := rfl
  simp only [fieldsJ, rightF, List.all_cons, List.all_nil, Bool.and_eq_true, decide_eq_true_eq, e1, e2, e3, and_true]
  omega
theorem fieldsJ_get (j : Journey) {m : Nat} (hm : m < 10) : (fieldsJ j).getD m ⟨0, 0⟩ = ⟨widthsL.getD m 0, (numbersJ j).getD m 0⟩ := by
  have : m = 0 ∨ m = 1 ∨ m = 2 ∨ m = 3 ∨ m = 4 ∨ m = 5 ∨ m = 6 ∨ m = 7 ∨ m = 8 ∨ m = 9 := by omega
  rcases this with rfl | rfl | rfl | rfl | rfl | rfl | rfl | rfl | rfl | rfl <;> rfl
theorem fieldsJ_put {j : Journey} (h : goodJ j = true) {m : Nat} (hm : m < 10) (xs : List Int) : putB xs [⟨widthsL.getD m 0, (numbersJ j).getD m 0⟩] = xs ++ bytesF [(fieldsJ j).getD m ⟨0, 0⟩] ∧ (widthsL.getD m 0) % 8 = 0 := by
  have hr := all_getD (d := (⟨0, 0⟩ : FieldT)) (fieldsJ_right h) (show m < (fieldsJ j).length from hm)
  rw [← fieldsJ_get j hm]
  refine ⟨?_, ?_⟩
  · unfold putB; rw [if_pos (by simp only [List.all_cons, List.all_nil, Bool.and_true]; exact hr)]
  · have : m = 0 ∨ m = 1 ∨ m = 2 ∨ m = 3 ∨ m = 4 ∨ m = 5 ∨ m = 6 ∨ m = 7 ∨ m = 8 ∨ m = 9 := by omega
    rcases this with rfl | rfl | rfl | rfl | rfl | rfl | rfl | rfl | rfl | rfl <;> rfl
def IIn (lo hi : Int) (ns : List Int) (i : Int) : Prop := ∃ j : Nat, j ≤ ns.length ∧ i = j ∧ inR lo hi (ns.take j) = true
def IGood (js : List Journey) (i : Int) : Prop := ∃ j : Nat, j ≤ js.length ∧ i = j ∧ good (js.take j) = true
def IPut (js : List Journey) (i : Int) (xs : List Int) (n : Int) : Prop := ∃ j : Nat, j ≤ js.length ∧ i = j ∧ xs = form (js.take j) ∧ n = 8 * xs.length
def IPutI (base : List Int) (x : Journey) (i : Int) (xs : List Int) (n : Int) : Prop := ∃ m : Nat, m ≤ 10 ∧ i = m ∧ xs = base ++ bytesF ((fieldsJ x).take m) ∧ n = 8 * xs.length
def zJ : Journey := ⟨0, 0, 0, 0, 0, 0, 0, 0, 0, 0⟩
def parseJ (bs : List Int) : Journey := ⟨(rd bs widthsL).getD 0 0, (rd bs widthsL).getD 1 0, (rd bs widthsL).getD 2 0, (rd bs widthsL).getD 3 0, (rd bs widthsL).getD 4 0, (rd bs widthsL).getD 5 0, (rd bs widthsL).getD 6 0, (rd bs widthsL).getD 7 0, (rd bs widthsL).getD 8 0, (rd bs widthsL).getD 9 0⟩
def parseJs : Nat → List Int → List Journey
  | 0, _ => []
  | n + 1, bs => parseJ bs :: parseJs n (bs.drop 19)
theorem parseJs_snoc : ∀ (n : Nat) (bs : List Int), parseJs (n + 1) bs = parseJs n bs ++ [parseJ (bs.drop (19 * n))]
  | 0, bs => by simp [parseJs]
  | n + 1, bs => by
    rw [parseJs, parseJs_snoc n (bs.drop 19), List.drop_drop, show 19 + 19 * n = 19 * (n + 1) by omega]
    rfl
theorem parseJs_length : ∀ (n : Nat) (bs : List Int), (parseJs n bs).length = n
  | 0, _ => rfl
  | n + 1, bs => by simp [parseJs, parseJs_length n]
def getJE (b : List Int) : Int := if b.length % 19 ≠ 0 then 10 else if good (parseJs (b.length / 19) b) then 0 else 12
def getJ (b : List Int) : List Journey := if getJE b = 0 then parseJs (b.length / 19) b else []
def IGet (b : List Int) (js : List Journey) (a e : Int) : Prop := ∃ j : Nat, j ≤ b.length / 19 ∧ js = parseJs j b ∧ a = ((152 * j : Nat) : Int) ∧ e = 0
theorem take_w {b : List Int} {j : Nat} (hj : j < b.length / 19) : takeE b.length ((152 * j : Nat) : Int) 0 widthsL = 0 ∧ takeN b ((152 * j : Nat) : Int) 0 widthsL = rd (b.drop (19 * j)) widthsL ∧ takeAt b.length ((152 * j : Nat) : Int) 0 widthsL = ((152 * (j + 1) : Nat) : Int) := by
  have h1 : takeE b.length ((152 * j : Nat) : Int) 0 widthsL = 0 := by
    unfold takeE
    rw [if_neg (by simp), if_neg (by decide), if_neg (by rw [show widthsL.sum = 152 from rfl]; omega)]
  refine ⟨h1, ?_, ?_⟩
  · unfold takeN
    rw [if_pos h1, show (((152 * j : Nat) : Int) / 8).toNat = 19 * j by omega]
  · unfold takeAt
    rw [if_pos h1, show widthsL.sum = 152 from rfl]
    omega
theorem widths8 : ∀ w ∈ widthsL, w % 8 = 0 := by decide
theorem good_snoc (l : List Journey) (j : Journey) : good (l ++ [j]) = (good l && goodJ j) := by simp [good]
theorem inR_snoc (lo hi : Int) (l : List Int) (j : Int) : inR lo hi (l ++ [j]) = (inR lo hi l && (decide (lo ≤ j) && decide (j ≤ hi))) := by simp [inR]
theorem not_good {js : List Journey} {j : Nat} (hj : j < js.length) (h : goodJ (js.getD j ⟨0, 0, 0, 0, 0, 0, 0, 0, 0, 0⟩) = false) : good js = false := by
  rw [← Bool.not_eq_true]
  intro hc
  exact Bool.noConfusion ((all_getD (d := (⟨0, 0, 0, 0, 0, 0, 0, 0, 0, 0⟩ : Journey)) hc hj).symm.trans h)
theorem not_inR {lo hi : Int} {ns : List Int} {j : Nat} (hj : j < ns.length) (h : ns.getD j 0 < lo ∨ hi < ns.getD j 0) : inR lo hi ns = false := by
  rw [← Bool.not_eq_true]
  intro hc
  have := inR_iff.1 hc _ (mem_getD (d := (0 : Int)) hj)
  omega



def scanJ (op : Int) : Int → List Journey → Int → Int × Int
  | last, [], _ => (-1, last)
  | last, j :: l, i => if j.op ≠ op ∨ j.seq ≤ last then (i, j.seq) else scanJ op j.seq l (i + 1)
def rightB (x : Batch) : Bool := inR 1 4 [x.op] && inR 1 2147483647 [x.n] && inR 1 8 [(x.js.length : Int)] && good x.js && decide ((scanJ x.op 0 x.js 0).1 < 0)
def zB : Batch := ⟨0, 0, []⟩
def putBE (x : Batch) : Int := if rightB x then 0 else 2
def putBB (x : Batch) : List Int := if rightB x then be 1 x.op ++ be 4 x.n ++ be 1 x.js.length ++ form x.js else []
def headL (b : List Int) : List Int := takeN b 0 0 [8, 32, 8]
def batchOf (b : List Int) : Batch := ⟨(headL b).getD 0 0, (headL b).getD 1 0, getJ (b.drop 6)⟩
def getBE (b : List Int) : Int := if b.length < 6 ∨ (b.length : Int) < 6 + 19 * b.getD 5 0 then 10 else if (b.length : Int) > 6 + 19 * b.getD 5 0 then 14 else if rightB (batchOf b) then 0 else 12
def getB (b : List Int) : Batch := if getBE b = 0 then batchOf b else zB
def ISc (op : Int) (js : List Journey) (i last : Int) : Prop := ∃ j : Nat, j ≤ js.length ∧ i = j ∧ scanJ op last (js.drop j) j = scanJ op 0 js 0
def sumGo : Int → List Int → Option Int
  | a, [] => some a
  | a, n :: l => if -9223372036854775808 ≤ a + n ∧ a + n ≤ 9223372036854775807 then sumGo (a + n) l else none
def sumE (ns : List Int) : Int := if (sumGo 0 ns).isSome then 0 else 29
def sumV (ns : List Int) : Int := (sumGo 0 ns).getD 0
def ISum (ns : List Int) (i s : Int) : Prop := ∃ j : Nat, j ≤ ns.length ∧ i = j ∧ sumGo s (ns.drop j) = sumGo 0 ns ∧ -9223372036854775808 ≤ s ∧ s ≤ 9223372036854775807
theorem sumGo_sum : ∀ {ns : List Int} {a : Int}, (∀ n ∈ ns, 0 ≤ n ∧ n ≤ 2147483648) → 0 ≤ a → a + 2147483648 * ns.length ≤ 9223372036854775807 → sumGo a ns = some (a + ns.sum)
  | [], a, _, _, _ => by simp [sumGo]
  | n :: l, a, h, h0, h1 => by
    have hn := h n (by simp)
    simp only [List.length_cons] at h1
    simp only [sumGo, List.sum_cons]
    rw [if_pos (by omega), sumGo_sum (fun x hx => h x (by simp [hx])) (by omega) (by omega)]
    congr 1
    omega
def totE (js : List Journey) : Int := if good js then 0 else 2
def totV (js : List Journey) : Int := if good js then (js.map (·.fare)).sum else 0
def ITot (js : List Journey) (i : Int) (ns : List Int) : Prop := ∃ j : Nat, j ≤ js.length ∧ i = j ∧ ns = (js.take j).map (·.fare)
theorem isum_more {ns : List Int} {i s : Int} (h : ISum ns i s) (hL : ns.length ≤ 1099511627776) (hR : ∀ n ∈ ns, -9223372036854775808 ≤ n ∧ n ≤ 9223372036854775807) (hlt : i < ns.length) :
    (sumGo 0 ns = none ∧ ((0 < ns.getD i.toNat 0 ∧ IntKind.i64.wrap (s + ns.getD i.toNat 0) < s) ∨ (ns.getD i.toNat 0 < 0 ∧ s < IntKind.i64.wrap (s + ns.getD i.toNat 0)))) ∨
    (IntKind.i64.wrap (s + ns.getD i.toNat 0) = s + ns.getD i.toNat 0 ∧ ISum ns (IntKind.i64.wrap (i + 1)) (IntKind.i64.wrap (s + ns.getD i.toNat 0)) ∧ ns.length - (IntKind.i64.wrap (i + 1)).toNat < ns.length - i.toNat) := by
  obtain ⟨j, hj, rfl, hs, hlo, hhi⟩ := h
  simp only [Int.toNat_natCast]
  have hlt' : j < ns.length := by omega
  have hx := hR _ (mem_getD (d := (0 : Int)) hlt')
  rw [drop_getD (d := (0 : Int)) hlt'] at hs
  simp only [sumGo] at hs
  generalize ns.getD j 0 = x at *
  have e2 : IntKind.i64.wrap ((j : Int) + 1) = ((j + 1 : Nat) : Int) := by rw [wrap64] <;> omega
  by_cases hc : -9223372036854775808 ≤ s + x ∧ s + x ≤ 9223372036854775807
  · right
    rw [if_pos hc] at hs
    rw [wrap64 hc.1 hc.2, e2]
    exact ⟨rfl, ⟨j + 1, by omega, rfl, hs, hc.1, hc.2⟩, by omega⟩
  · left
    rw [if_neg hc] at hs
    rw [IntKind.wrap_i64]
    exact ⟨hs.symm, by omega⟩
theorem isc_more {op : Int} {js : List Journey} {i last : Int} (h : ISc op js i last) (hL : js.length ≤ 1099511627776) (hlt : i < js.length) :
    ((decide ((js.getD i.toNat ⟨0, 0, 0, 0, 0, 0, 0, 0, 0, 0⟩).op ≠ op) || decide ((js.getD i.toNat ⟨0, 0, 0, 0, 0, 0, 0, 0, 0, 0⟩).seq ≤ last)) = true → scanJ op 0 js 0 = (i, (js.getD i.toNat ⟨0, 0, 0, 0, 0, 0, 0, 0, 0, 0⟩).seq)) ∧
    ((decide ((js.getD i.toNat ⟨0, 0, 0, 0, 0, 0, 0, 0, 0, 0⟩).op ≠ op) || decide ((js.getD i.toNat ⟨0, 0, 0, 0, 0, 0, 0, 0, 0, 0⟩).seq ≤ last)) = false → ISc op js (IntKind.i64.wrap (i + 1)) (js.getD i.toNat ⟨0, 0, 0, 0, 0, 0, 0, 0, 0, 0⟩).seq ∧ js.length - (IntKind.i64.wrap (i + 1)).toNat < js.length - i.toNat) := by
  obtain ⟨j, hj, rfl, hs⟩ := h
  simp only [Int.toNat_natCast]
  have hlt' : j < js.length := by omega
  rw [drop_getD (d := (⟨0, 0, 0, 0, 0, 0, 0, 0, 0, 0⟩ : Journey)) hlt'] at hs
  simp only [scanJ] at hs
  have e2 : IntKind.i64.wrap ((j : Int) + 1) = ((j + 1 : Nat) : Int) := by rw [wrap64] <;> omega
  rw [e2]
  refine ⟨fun hc => ?_, fun hc => ?_⟩
  · rw [Bool.or_eq_true, decide_eq_true_eq, decide_eq_true_eq] at hc
    rw [if_pos hc] at hs
    exact hs.symm
  · rw [Bool.or_eq_false_iff, decide_eq_false_iff_not, decide_eq_false_iff_not] at hc
    rw [if_neg (fun h => h.elim hc.1 hc.2)] at hs
    exact ⟨⟨j + 1, by omega, rfl, hs⟩, by omega⟩
theorem scanJ_end {op : Int} {js : List Journey} {i last : Int} (h : ISc op js i last) (hlt : js.length ≤ i) : scanJ op 0 js 0 = (-1, last) := by
  obtain ⟨j, hj, rfl, hs⟩ := h
  obtain rfl : j = js.length := by omega
  rw [List.drop_length] at hs
  exact hs.symm
theorem rightB_iff (x : Batch) : rightB x = true ↔ (1 ≤ x.op ∧ x.op ≤ 4) ∧ (1 ≤ x.n ∧ x.n ≤ 2147483647) ∧ (1 ≤ x.js.length ∧ x.js.length ≤ 8) ∧ good x.js = true ∧ (scanJ x.op 0 x.js 0).1 < 0 := by
  simp only [rightB, Bool.and_eq_true, decide_eq_true_eq, inR_iff, List.mem_singleton, forall_eq]
  exact ⟨fun ⟨⟨⟨⟨h1, h2⟩, h3⟩, h4⟩, h5⟩ => ⟨h1, h2, by omega, h4, h5⟩, fun ⟨h1, h2, h3, h4, h5⟩ => ⟨⟨⟨⟨h1, h2⟩, by omega⟩, h4⟩, h5⟩⟩
theorem put3 {x : Batch} (h : rightB x = true) : putB [] [⟨8, x.op⟩, ⟨32, x.n⟩, ⟨8, (x.js.length : Int)⟩] = be 1 x.op ++ be 4 x.n ++ be 1 x.js.length := by
  obtain ⟨h1, h2, h3, h4, h5⟩ := (rightB_iff x).1 h
  have e1 : (2 : Int) ^ (8 : Int).toNat = 256 := rfl
  have e3 : (2 : Int) ^ (32 : Int).toNat = 4294967296 := rfl
  unfold putB
  rw [if_pos]
  · simp [bytesF]
  · simp only [rightF, List.all_cons, List.all_nil, Bool.and_eq_true, decide_eq_true_eq, e1, e3, and_true]
    omega
theorem one_byte {l : List Int} {n : Nat} (h : n < l.length) : num ((l.drop n).take 1) = l.getD n 0 := by
  rw [List.drop_eq_getElem_cons h, List.take_succ_cons, List.take_zero]
  simp [num, List.getD, h]
theorem headC (b : List Int) : (b.length < 6 ∧ headL b = []) ∨ (6 ≤ b.length ∧ (headL b).length = 3 ∧ (headL b).getD 2 0 = b.getD 5 0) := by
  by_cases h : b.length < 6
  · left
    refine ⟨h, ?_⟩
    have : takeE b.length 0 0 [8, 32, 8] = 10 := by
      unfold takeE
      rw [if_neg (by simp), if_neg (by decide), if_pos (by rw [show ([8, 32, 8] : List Int).sum = 48 from rfl]; omega)]
    unfold headL takeN
    rw [this, if_neg (by decide)]
  · right
    have : takeE b.length 0 0 [8, 32, 8] = 0 := by
      unfold takeE
      rw [if_neg (by simp), if_neg (by decide), if_neg (by rw [show ([8, 32, 8] : List Int).sum = 48 from rfl]; omega)]
    have e : headL b = rd b [8, 32, 8] := by unfold headL takeN; rw [if_pos this]; rfl
    refine ⟨by omega, by rw [e, rd_length]; rfl, ?_⟩
    rw [e, ← one_byte (l := b) (n := 5) (by omega)]
    simp [rd, List.drop_drop]
theorem w3 : ∀ w ∈ ([8, 32, 8] : List Int), w % 8 = 0 := by decide
theorem getJ_length (b : List Int) : (getJ b).length ≤ b.length := by
  unfold getJ
  split
  · rw [parseJs_length]; omega
  · simp
theorem fares_in {js : List Journey} (h : good js = true) : ∀ n ∈ js.map (·.fare), 0 ≤ n ∧ n ≤ 2147483648 := by
  intro n hn
  obtain ⟨j, hj, rfl⟩ := List.mem_map.1 hn
  have := (goodJ_iff j).1 (List.all_eq_true.1 h j hj)
  omega


end Go.Proofs.Ythbmllekbbfobaa.Sx
