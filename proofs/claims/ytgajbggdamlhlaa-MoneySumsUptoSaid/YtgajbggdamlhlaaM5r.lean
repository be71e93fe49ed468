import Derived.Test.YtgajbggdamlhlaaProg
import Derived.Test.YtgajbggdamlhlaaSxU
import Derived.IntWalk
import Derived.Test.YtgajbggdamlhlaaM3
/-! fareboxlaw05, Sum and Even -/
namespace Go.Proofs.Ytgajbggdamlhlaa.Sx
open Go
set_option linter.unusedVariables false
set_option linter.unusedSimpArgs false
set_option maxRecDepth 100000

theorem sum_none {ns : List Int} (h : sumGo 0 ns = none) : false = decide (sumE ns = 0) ∧ 0 = sumV ns := by unfold sumV sumE; rw [h]; exact ⟨rfl, rfl⟩
theorem isum_ref {ns : List Int} {i s : Int} (h : ISum ns i s) (hL : ns.length ≤ 1099511627776) (hR : ∀ n ∈ ns, -9223372036854775808 ≤ n ∧ n ≤ 9223372036854775807) (hlt : i < ns.length) :
    0 ≤ i ∧ (0 < ns.getD i.toNat 0 → IntKind.i64.wrap (9223372036854775807 - ns.getD i.toNat 0) < s → sumGo 0 ns = none) ∧
    (ns.getD i.toNat 0 < 0 → s < IntKind.i64.wrap (-9223372036854775808 - ns.getD i.toNat 0) → sumGo 0 ns = none) ∧
    ((ns.getD i.toNat 0 ≤ 0 ∨ s ≤ IntKind.i64.wrap (9223372036854775807 - ns.getD i.toNat 0)) → (0 ≤ ns.getD i.toNat 0 ∨ IntKind.i64.wrap (-9223372036854775808 - ns.getD i.toNat 0) ≤ s) →
      ISum ns (IntKind.i64.wrap (i + 1)) (IntKind.i64.wrap (s + ns.getD i.toNat 0)) ∧ ns.length - (IntKind.i64.wrap (i + 1)).toNat < ns.length - i.toNat) := by
  obtain ⟨j, hj, rfl, hs, hlo, hhi⟩ := h
  simp only [Int.toNat_natCast]
  have hlt' : j < ns.length := by omega
  have hx := hR _ (mem_getD (d := (0 : Int)) hlt')
  rw [drop_getD (d := (0 : Int)) hlt'] at hs
  simp only [sumGo] at hs
  generalize ns.getD j 0 = x at *
  have e2 : IntKind.i64.wrap ((j : Int) + 1) = ((j + 1 : Nat) : Int) := by rw [wrap64] <;> omega
  refine ⟨by omega, fun h1 h2 => ?_, fun h1 h2 => ?_, fun h1 h2 => ?_⟩
  · rw [wrap64 (by omega) (by omega)] at h2
    rw [if_neg (by omega)] at hs; exact hs.symm
  · rw [wrap64 (by omega) (by omega)] at h2
    rw [if_neg (by omega)] at hs; exact hs.symm
  · have hc : -9223372036854775808 ≤ s + x ∧ s + x ≤ 9223372036854775807 := by
      constructor
      · rcases Int.lt_or_le x 0 with hn | hn
        · rw [wrap64 (n := -9223372036854775808 - x) (by omega) (by omega)] at h2; omega
        · omega
      · rcases Int.lt_or_le 0 x with hn | hn
        · rw [wrap64 (n := 9223372036854775807 - x) (by omega) (by omega)] at h1; omega
        · omega
    rw [if_pos hc] at hs
    rw [wrap64 hc.1 hc.2, e2]
    exact ⟨⟨j + 1, by omega, rfl, hs, hc.1, hc.2⟩, by omega⟩
theorem isum_fin {ns : List Int} {i s : Int} (h : ISum ns i s) (hi : ns.length ≤ i) : true = decide (sumE ns = 0) ∧ s = sumV ns := by
  obtain ⟨j, hj, rfl, hs, _, _⟩ := h
  rw [List.drop_of_length_le (by omega)] at hs
  simp only [sumGo] at hs
  unfold sumV sumE
  rw [← hs]; exact ⟨rfl, rfl⟩
def evenB (sh : List Share) : Bool := decide (sumE (sh.map (·.amount)) = 0) && decide (sumV (sh.map (·.amount)) = 0)
def IEv (sh : List Share) (k : Int) (l : List Int) : Prop := ∃ j : Nat, j ≤ sh.length ∧ k = j ∧ l = (sh.take j).map (·.amount)
theorem iev_more {sh : List Share} {k : Int} {l : List Int} (q : IEv sh k l) (hL : sh.length ≤ 1048576) (hk : k < sh.length) :
    0 ≤ k ∧ l.length ≤ 1048576 ∧ IEv sh (IntKind.i64.wrap (k + 1)) (l ++ [(sh.getD k.toNat ⟨0, 0⟩).amount]) ∧ sh.length - (IntKind.i64.wrap (k + 1)).toNat < sh.length - k.toNat := by
  obtain ⟨j, hj, rfl, rfl⟩ := q
  rw [Int.toNat_natCast, wrap64 (by omega) (by omega)]
  refine ⟨by omega, by rw [List.length_map, List.length_take]; omega, ⟨j + 1, by omega, by omega, ?_⟩, by omega⟩
  have h : j < sh.length := by omega
  rw [List.take_succ_eq_append_getElem h, List.map_append]; simp [List.getD, h]
theorem iev_end {sh : List Share} {k : Int} {l : List Int} (q : IEv sh k l) (hk : sh.length ≤ k) : l = sh.map (·.amount) := by
  obtain ⟨j, hj, rfl, rfl⟩ := q
  rw [List.take_of_length_le (by omega)]
def shM (l : List Int) (n : Nat) : List Share := (List.range n).map fun k : Nat => ⟨(k : Int), l.getD k 0⟩
def ISh (l : List Int) (i : Int) (sh : List Share) : Prop := ∃ j : Nat, j ≤ l.length ∧ i = j ∧ sh = shM l j
theorem ish_more {l : List Int} {i : Int} {sh : List Share} (q : ISh l i sh) (hL : l.length ≤ 1048576) (hi : i < l.length) :
    0 ≤ i ∧ sh.length ≤ 1048576 ∧ ISh l (IntKind.i64.wrap (i + 1)) (sh ++ [⟨i, l.getD i.toNat 0⟩]) ∧ l.length - (IntKind.i64.wrap (i + 1)).toNat < l.length - i.toNat := by
  obtain ⟨j, hj, rfl, rfl⟩ := q
  rw [Int.toNat_natCast, wrap64 (by omega) (by omega)]
  refine ⟨by omega, by simp [shM]; omega, ⟨j + 1, by omega, by omega, ?_⟩, by omega⟩
  simp [shM, List.range_succ]
theorem ish_end {l : List Int} {i : Int} {sh : List Share} (q : ISh l i sh) (hi : l.length ≤ i) : sh.map (·.amount) = l ∧ sh.length = l.length := by
  obtain ⟨j, hj, rfl, rfl⟩ := q
  rw [show j = l.length by omega]
  refine ⟨?_, by simp [shM]⟩
  unfold shM
  rw [List.map_map]
  exact list_mapTo l
theorem sumE_two (ns : List Int) : sumE ns = 0 ∨ sumE ns = 29 := by unfold sumE; split <;> simp


end Go.Proofs.Ytgajbggdamlhlaa.Sx
