import Derived.Test.YthbmllekbbfobaaProg
import Derived.Test.YthbmllekbbfobaaSxU
import Derived.IntWalk
import Derived.Test.YthbmllekbbfobaaI2
/-! tlv, Find -/
namespace Go.Proofs.Ythbmllekbbfobaa.Sx
open Go
set_option linter.unusedVariables false
set_option linter.unusedSimpArgs false
set_option maxRecDepth 100000

def hE : Nat → List Elem → Prop
  | 0, es => es = []
  | d + 1, es => ∀ x ∈ es, hE d x.elems
def lE : Nat → List Elem → Prop
  | 0, es => es.length ≤ 1048576
  | d + 1, es => es.length ≤ 1048576 ∧ ∀ x ∈ es, x.bytes.length ≤ 1048576 ∧ lE d x.elems
def ISm (a b : List Int) (i : Int) : Prop := ∃ j : Nat, j ≤ a.length ∧ i = j ∧ a.take j = b.take j
def intE (b : List Int) : Int := if 7 < b.length then 11 else if 0 < b.length ∧ b.getD 0 0 = 0 then 12 else 0
def intV (b : List Int) : Int := if intE b = 0 then num b else 0
theorem or8 {n x : Int} (h0 : 0 ≤ n) (h1 : n < 36028797018963968) (hx : 0 ≤ x) (hx' : x < 256) :
    IntKind.i64.wrap ↑(BitVec.ofInt IntKind.i64.bits (IntKind.i64.wrap (n * 2 ^ min 8 IntKind.i64.bits)) ||| BitVec.ofInt IntKind.i64.bits (IntKind.i64.wrap x)).toNat = 256 * n + x := by
  have e : n * 2 ^ min 8 IntKind.i64.bits = 256 * n := by rw [show min 8 IntKind.i64.bits = 8 from rfl]; simp only [Int.reducePow]; omega
  rw [e, wrap64 (n := 256 * n) (by omega) (by omega), wrap64 (n := x) (by omega) (by omega)]
  change IntKind.i64.wrap ↑(BitVec.ofInt 64 (256 * n) ||| BitVec.ofInt 64 x).toNat = _
  rw [bv_or (w := 64) (by omega) hx (by simp only [Int.reducePow]; omega) (by simp only [Int.reducePow]; omega)]
  obtain ⟨q, rfl⟩ : ∃ q : Nat, n = q := ⟨n.toNat, by omega⟩
  obtain ⟨r, rfl⟩ : ∃ r : Nat, x = r := ⟨x.toNat, by omega⟩
  have h := Nat.two_pow_add_eq_or_of_lt (i := 8) (b := r) (by omega) q
  rw [show (256 * (q : Int)).toNat = 2 ^ 8 * q by omega, Int.toNat_natCast, ← h, wrap64 (by omega) (by omega)]
  push_cast; omega
theorem set_getD {α : Type} {l : List α} {j : Nat} {d : α} (h : j < l.length) : l.set j (l.getD j d) = l := by
  rw [show l.getD j d = l[j] by simp [List.getD, h]]
  exact List.set_getElem_self h
def IIn_ (b : List Int) (i n : Int) : Prop := ∃ j : Nat, j ≤ b.length ∧ i = j ∧ n = num (b.take j)
def findE (t : Int) : List Elem → Elem × Bool
  | [] => (.mk 0 [] [], false)
  | x :: l => if x.tag = t then (x, true) else findE t l
def IFd (t : Int) (es : List Elem) (i : Int) : Prop := ∃ j : Nat, j ≤ es.length ∧ i = j ∧ findE t (es.drop j) = findE t es
def ICp (es : List Elem) (i : Int) (xs : List Elem) : Prop := ∃ j : Nat, j ≤ es.length ∧ i = j ∧ es = xs
theorem getD_takeE {b : List Int} {p m i : Nat} (hi : i < m) : ((b.drop p).take m).getD i 0 = b.getD (p + i) 0 := getD_take_drop hi


end Go.Proofs.Ythbmllekbbfobaa.Sx
