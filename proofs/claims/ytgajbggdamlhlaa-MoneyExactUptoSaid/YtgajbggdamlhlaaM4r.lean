import Derived.Test.YtgajbggdamlhlaaProg
import Derived.Test.YtgajbggdamlhlaaSxU
import Derived.IntWalk
import Derived.Test.YtgajbggdamlhlaaM3
/-! fareboxlaw05, laws of Split -/
namespace Go.Proofs.Ytgajbggdamlhlaa.Sx
open Go
set_option linter.unusedVariables false
set_option linter.unusedSimpArgs false
set_option maxRecDepth 100000

theorem mapTo_zero_sum {f : Nat → Int} {n : Nat} (h : ∀ i, i < n → f i = 0) : (mapTo f n).sum = 0 := by
  rw [mapTo_congr h, mapTo_sum_const]; simp
theorem rank_sum {key : Int → Int} {i : Int} : ∀ {n : Nat}, (mapTo (fun j => if ahead key (j : Int) i then (1 : Int) else 0) n).sum = (rank key n i : Int)
  | 0 => rfl
  | n + 1 => by
    rw [mapTo_sum_succ, rank_sum (n := n)]
    unfold rank
    rw [idxs_succ, List.filter_append, List.length_append]
    by_cases h : ahead key (n : Int) i <;> simp [h]
/-- Who has no rest gets no unit. -/
theorem GoodM.rest0 {a : Int} {ws : List Int} (h : GoodM a ws) {i : Nat} (hi : i < ws.length) (hk : kM a ws i = 0) : bonus (kM a ws) ws.length (leftM a ws).toNat i = 0 := by
  unfold bonus
  rw [if_neg]
  intro hlt
  obtain ⟨l1, l2⟩ := h.left_in
  have h0 := h.all0
  have e := h.left
  have le : (mapTo (fun j => kM a ws j) ws.length).sum ≤ (mapTo (fun j => allM ws * if ahead (kM a ws) (j : Int) (i : Int) then (1 : Int) else 0) ws.length).sum := by
    apply mapTo_sum_le
    intro j hj
    obtain ⟨_, _, _, q4, q5⟩ := h.q hj
    by_cases hp : kM a ws j = 0
    · have : 0 ≤ allM ws * if ahead (kM a ws) (j : Int) (i : Int) then (1 : Int) else 0 := by
        refine Int.mul_nonneg (Int.le_of_lt h0) ?_
        split <;> decide
      omega
    · have : ahead (kM a ws) (j : Int) (i : Int) := .inl (by omega)
      rw [if_pos this, Int.mul_one]
      omega
  rw [mapTo_sum_mul, rank_sum, ← e, Int.mul_comm] at le
  have := Int.le_of_mul_le_mul_left le h0
  omega
theorem GoodM.far {a : Int} {ws : List Int} (h : GoodM a ws) {i : Nat} (hi : i < ws.length) : shareM a ws i * allM ws - a * ws.getD i 0 < allM ws ∧ -allM ws < shareM a ws i * allM ws - a * ws.getD i 0 := by
  obtain ⟨q1, q2, q3, q4, q5⟩ := h.q hi
  have h0 := h.all0
  unfold shareM
  rw [q3, Int.add_mul]
  by_cases hk : kM a ws i = 0
  · rw [h.rest0 hi hk, hk]; omega
  · have : bonus (kM a ws) ws.length (leftM a ws).toNat i * allM ws = 0 ∨ bonus (kM a ws) ws.length (leftM a ws).toNat i * allM ws = allM ws := by
      unfold bonus; split <;> simp
    omega
theorem GoodM.none {a : Int} {ws : List Int} (h : GoodM a ws) {i : Nat} (hi : i < ws.length) (hw : ws.getD i 0 = 0) : shareM a ws i = 0 := by
  have hk : kM a ws i = 0 := by unfold kM keyM; rw [Int.toNat_natCast, hw]; simp
  have hq : qM a ws i = 0 := by unfold qM; rw [hw]; simp
  unfold shareM
  rw [hq, h.rest0 hi hk]; rfl
theorem GoodM.mono {a : Int} {ws : List Int} (h : GoodM a ws) {i k : Nat} (hi : i < ws.length) (hk : k < ws.length) (hw : ws.getD i 0 < ws.getD k 0) : shareM a ws i ≤ shareM a ws k := by
  obtain ⟨_, _, p3, p4, p5⟩ := h.q hi
  obtain ⟨_, _, q3, q4, q5⟩ := h.q hk
  have h0 := h.all0
  have ha := h.a0
  have hle : a * ws.getD i 0 ≤ a * ws.getD k 0 := Int.mul_le_mul_of_nonneg_left (Int.le_of_lt hw) ha
  have hq : qM a ws i ≤ qM a ws k := by unfold qM; exact Int.ediv_le_ediv h0 hle
  have b1 : bonus (kM a ws) ws.length (leftM a ws).toNat i = 0 ∨ bonus (kM a ws) ws.length (leftM a ws).toNat i = 1 := by unfold bonus; split <;> simp
  have b2 : bonus (kM a ws) ws.length (leftM a ws).toNat k = 0 ∨ bonus (kM a ws) ws.length (leftM a ws).toNat k = 1 := by unfold bonus; split <;> simp
  unfold shareM
  rcases Int.lt_or_le (qM a ws i) (qM a ws k) with hlt | hge
  · omega
  · have e : qM a ws i = qM a ws k := by omega
    rw [e]
    by_cases ha0 : a = 0
    · have e1 : kM a ws i = 0 := by unfold kM keyM; rw [ha0]; simp
      rw [h.rest0 hi e1]; omega
    · have hlt : a * ws.getD i 0 < a * ws.getD k 0 := Int.mul_lt_mul_of_pos_left hw (by omega)
      have hak : ahead (kM a ws) (k : Int) (i : Int) := .inl (by rw [e] at p3; omega)
      have hr := (ahead_rank (key := kM a ws) (n := ws.length) (i := (k : Int)) (j := (i : Int)) (by omega) (by omega) (by omega) (by omega)).2 hak
      unfold bonus at *
      split
      · rw [if_pos (by omega)]; omega
      · split <;> omega
/-! Weights as many times as great. -/
theorem sum_map_mul (c : Int) : ∀ ws : List Int, (ws.map (c * ·)).sum = c * ws.sum
  | [] => by simp
  | w :: ws => by simp [sum_map_mul c ws, Int.mul_add]
theorem getD_map_mul (c : Int) (ws : List Int) (i : Nat) : (ws.map (c * ·)).getD i 0 = c * ws.getD i 0 := by
  simp only [List.getD, List.getElem?_map]
  cases ws[i]? <;> simp
theorem keyM_scale {a c : Int} {ws : List Int} (hc : 0 < c) (i : Int) : kM a (ws.map (c * ·)) i = c * kM a ws i := by
  unfold kM keyM allM
  rw [sum_map_mul, getD_map_mul, show a * (c * ws.getD i.toNat 0) = c * (a * ws.getD i.toNat 0) by rw [← Int.mul_assoc, Int.mul_comm a c, Int.mul_assoc], Int.mul_emod_mul_of_pos _ _ hc]
theorem qM_scale {a c : Int} {ws : List Int} (hc : 0 < c) (i : Nat) : qM a (ws.map (c * ·)) i = qM a ws i := by
  unfold qM allM
  rw [sum_map_mul, getD_map_mul, show a * (c * ws.getD i 0) = c * (a * ws.getD i 0) by rw [← Int.mul_assoc, Int.mul_comm a c, Int.mul_assoc], Int.mul_ediv_mul_of_pos _ _ hc]
theorem ahead_scale {key key' : Int → Int} {c : Int} (hc : 0 < c) (h : ∀ i, key' i = c * key i) (x y : Int) : ahead key' x y ↔ ahead key x y := by
  unfold ahead
  rw [h x, h y]
  have e1 : c * key y < c * key x ↔ key y < key x := ⟨fun h => Int.lt_of_mul_lt_mul_left h (Int.le_of_lt hc), fun h => Int.mul_lt_mul_of_pos_left h hc⟩
  have e2 : c * key x = c * key y ↔ key x = key y := ⟨fun h => Int.eq_of_mul_eq_mul_left (by omega) h, fun h => by rw [h]⟩
  rw [e1, e2]
theorem rank_congr {key key' : Int → Int} (h : ∀ x y, ahead key' x y ↔ ahead key x y) (n : Nat) (i : Int) : rank key' n i = rank key n i := by
  unfold rank
  congr 1
  apply List.filter_congr
  intro x _
  rw [decide_eq_decide]
  exact h x i
theorem share_scale {a c : Int} {ws : List Int} (hc : 0 < c) (i : Nat) : shareM a (ws.map (c * ·)) i = shareM a ws i := by
  have hl : leftM a (ws.map (c * ·)) = leftM a ws := by
    unfold leftM
    rw [List.length_map, mapTo_congr fun i _ => qM_scale hc i]
  unfold shareM bonus
  rw [qM_scale hc, hl, List.length_map, rank_congr (ahead_scale hc (keyM_scale hc))]
theorem right_scale {a c : Int} {ws : List Int} (hc : 0 < c) (hc5 : c ≤ 5) (h : ∀ w ∈ ws, 0 ≤ w ∧ w ≤ 200) : rightM a (ws.map (c * ·)) = rightM a ws := by
  rw [Bool.eq_iff_iff, rightM_iff, rightM_iff, List.length_map]
  have e : allM (ws.map (c * ·)) = c * allM ws := sum_map_mul c ws
  rw [e]
  constructor
  · rintro ⟨h1, h2, h3, h4, h5⟩
    exact ⟨h1, h2, h3, fun w hw => by have := h w hw; omega, Int.lt_of_mul_lt_mul_left (a := c) (b := 0) (by rw [Int.mul_zero]; exact h5) (Int.le_of_lt hc)⟩
  · rintro ⟨h1, h2, h3, h4, h5⟩
    refine ⟨h1, h2, h3, fun w hw => ?_, Int.mul_pos hc h5⟩
    obtain ⟨v, hv, rfl⟩ := List.mem_map.1 hw
    have hv := h v hv
    refine ⟨Int.mul_nonneg (Int.le_of_lt hc) hv.1, ?_⟩
    have := Int.mul_le_mul hc5 hv.2 hv.1 (by decide)
    omega
theorem split_scale {a c : Int} {ws : List Int} (hc : 0 < c) (hc5 : c ≤ 5) (h : ∀ w ∈ ws, 0 ≤ w ∧ w ≤ 200) : splitL a (ws.map (c * ·)) = splitL a ws ∧ splitE a (ws.map (c * ·)) = splitE a ws := by
  unfold splitL splitE
  rw [right_scale hc hc5 h, List.length_map, mapTo_congr fun i _ => share_scale hc i]
  exact ⟨rfl, rfl⟩
/-! The other way round. -/
theorem sum_reverse (ws : List Int) : ws.reverse.sum = ws.sum := by
  induction ws with
  | nil => rfl
  | cons w ws ih => rw [List.reverse_cons, List.sum_append, ih]; simp; omega
theorem right_reverse {a : Int} {ws : List Int} : rightM a ws.reverse = rightM a ws := by
  rw [Bool.eq_iff_iff, rightM_iff, rightM_iff, List.length_reverse]
  unfold allM
  rw [sum_reverse]
  simp
theorem getD_reverse {ws : List Int} {i : Nat} (h : i < ws.length) : ws.reverse.getD i 0 = ws.getD (ws.length - 1 - i) 0 := by
  simp only [List.getD]
  rw [List.getElem?_reverse h]
theorem near_reverse {a : Int} {ws : List Int} (h : GoodM a ws) {i : Nat} (hi : i < ws.length) : -1 ≤ shareM a ws i - shareM a ws.reverse (ws.length - 1 - i) ∧ shareM a ws i - shareM a ws.reverse (ws.length - 1 - i) ≤ 1 := by
  have e : qM a ws.reverse (ws.length - 1 - i) = qM a ws i := by
    unfold qM allM
    rw [sum_reverse, getD_reverse (by omega), show ws.length - 1 - (ws.length - 1 - i) = i by omega]
  have hr : GoodM a ws.reverse := goodM (by rw [right_reverse]; exact rightM_iff.2 ⟨h.a0, h.a1, h.len, h.w, h.all0⟩)
  obtain ⟨s1, s2⟩ := h.share hi
  obtain ⟨s3, s4⟩ := hr.share (i := ws.length - 1 - i) (by rw [List.length_reverse]; omega)
  rw [e] at s3 s4
  omega
/-! Of more. -/
theorem q_mono {a b : Int} {ws : List Int} (h : GoodM a ws) (hab : a ≤ b) {i : Nat} (hi : i < ws.length) : qM a ws i ≤ qM b ws i := by
  obtain ⟨w1, w2, _⟩ := h.at hi
  unfold qM
  exact Int.ediv_le_ediv h.all0 (Int.mul_le_mul_of_nonneg_right hab w1)
theorem right_more {a b : Int} {ws : List Int} (h0 : 0 ≤ a) (h1 : a ≤ 2147483648) (h2 : 0 ≤ b) (h3 : b ≤ 2147483648) : rightM a ws = rightM b ws := by
  rw [Bool.eq_iff_iff, rightM_iff, rightM_iff]
  exact ⟨fun ⟨_, _, h⟩ => ⟨h2, h3, h⟩, fun ⟨_, _, h⟩ => ⟨h0, h1, h⟩⟩
theorem lone {a : Int} (h0 : 0 ≤ a) (h1 : a ≤ 2147483648) : splitL a [0, 7, 0] = [0, a, 0] ∧ splitE a [0, 7, 0] = 0 := by
  have hr : rightM a [0, 7, 0] = true := rightM_iff.2 ⟨h0, h1, by decide, by decide, by decide⟩
  have hG := goodM hr
  unfold splitL splitE
  rw [if_pos hr, if_pos hr]
  refine ⟨?_, rfl⟩
  have e0 : shareM a [0, 7, 0] 0 = 0 := hG.none (by decide) rfl
  have e2 : shareM a [0, 7, 0] 2 = 0 := hG.none (by decide) rfl
  have e1 : shareM a [0, 7, 0] 1 = a := by
    have hs := hG.sum
    have : (mapTo (shareM a [0, 7, 0]) [(0 : Int), 7, 0].length) = [shareM a [0, 7, 0] 0, shareM a [0, 7, 0] 1, shareM a [0, 7, 0] 2] := rfl
    rw [this, e0, e2] at hs
    simpa using hs
  show [shareM a [0, 7, 0] 0, shareM a [0, 7, 0] 1, shareM a [0, 7, 0] 2] = _
  rw [e0, e1, e2]
/-! The loops. -/
def IMe (a : Int) (ws : List Int) (i sum : Int) : Prop := ∃ m : Nat, m ≤ ws.length ∧ i = m ∧ sum = (mapTo (shareM a ws) m).sum
def kS (b : Int) : Int := IntKind.i64.wrap (1 + (IntKind.i64.wrap (b.tmod 5 + 5)).tmod 5)
def IMs (k : Int) (ws : List Int) (i : Int) (more : List Int) : Prop := ∃ m : Nat, m ≤ ws.length ∧ i = m ∧ (∀ x ∈ ws.take m, 0 ≤ x ∧ x ≤ 200) ∧ more = (ws.take m).map (k * ·)
def IMt (ws : List Int) (i : Int) (back : List Int) : Prop := ∃ m : Nat, m ≤ ws.length ∧ i = (m : Int) - 1 ∧ back = (ws.drop m).reverse
def IMu (a : Int) (ws : List Int) (i sum : Int) : Prop := ∃ m : Nat, m ≤ (splitL a ws).length ∧ i = m ∧ sum = (mapTo (fun j => shareM a ws j - shareM a ws.reverse (ws.length - 1 - j)) m).sum
theorem right_of_E {a : Int} {ws : List Int} (h : splitE a ws = 0) : rightM a ws = true := by
  unfold splitE at h
  split at h
  · assumption
  · cases h
theorem split_bad {a : Int} {ws : List Int} (h : splitE a ws ≠ 0) : ((splitL a ws).length : Int) = 0 := by
  unfold splitE at h
  unfold splitL
  split at h
  · exact absurd rfl h
  · rename_i hr; rw [if_neg hr]; rfl
theorem splitL_get {a : Int} {ws : List Int} (hr : rightM a ws = true) {i : Nat} (h : i < ws.length) : (splitL a ws).getD i 0 = shareM a ws i := by
  unfold splitL
  rw [if_pos hr, mapTo_get h]
theorem GoodM.share_in {a : Int} {ws : List Int} (h : GoodM a ws) {i : Nat} (hi : i < ws.length) : 0 ≤ shareM a ws i ∧ shareM a ws i ≤ 2147483648001 ∧ 0 ≤ shareM a ws i * allM ws ∧ shareM a ws i * allM ws ≤ 2147483648000 + 16000 := by
  obtain ⟨q1, q2, q3, q4, q5⟩ := h.q hi
  obtain ⟨s1, s2⟩ := h.share hi
  obtain ⟨f1, f2⟩ := h.far hi
  obtain ⟨w1, w2, w3, w4⟩ := h.at hi
  have h0 := h.all0
  have h1 := h.all1
  exact ⟨by omega, by omega, Int.mul_nonneg (by omega) (by omega), by omega⟩
theorem ime_at {a : Int} {ws : List Int} {i sum : Int} (hr : rightM a ws = true) (q : IMe a ws i sum) (hi : i < (splitL a ws).length) :
    (0 ≤ i ∧ i < ws.length) ∧ 0 ≤ (splitL a ws).getD i.toNat 0 ∧ (ws.getD i.toNat 0 = 0 → (splitL a ws).getD i.toNat 0 = 0) ∧
    (IntKind.i64.wrap (IntKind.i64.wrap ((splitL a ws).getD i.toNat 0 * allM ws) - IntKind.i64.wrap (a * ws.getD i.toNat 0)) < allM ws ∧ IntKind.i64.wrap (0 - allM ws) < IntKind.i64.wrap (IntKind.i64.wrap ((splitL a ws).getD i.toNat 0 * allM ws) - IntKind.i64.wrap (a * ws.getD i.toNat 0))) ∧
    IMe a ws (IntKind.i64.wrap (i + 1)) (IntKind.i64.wrap (sum + (splitL a ws).getD i.toNat 0)) ∧ (splitL a ws).length - (IntKind.i64.wrap (i + 1)).toNat < (splitL a ws).length - i.toNat := by
  have hG := goodM hr
  obtain ⟨m, hm, rfl, rfl⟩ := q
  rw [splitL_len hr] at *
  have hm' : m < ws.length := by omega
  simp only [Int.toNat_natCast]
  rw [splitL_get hr hm']
  obtain ⟨s1, s2, s3, s4⟩ := hG.share_in hm'
  obtain ⟨w1, w2, w3, w4⟩ := hG.at hm'
  obtain ⟨f1, f2⟩ := hG.far hm'
  have h0 := hG.all0
  have h1 := hG.all1
  have hs := hG.len
  have p1 : 0 ≤ (mapTo (shareM a ws) m).sum := mapTo_sum_nonneg fun j hj => (hG.share_in (show j < ws.length by omega)).1
  have p2 : (mapTo (shareM a ws) m).sum ≤ (mapTo (fun _ => (2147483648001 : Int)) m).sum := mapTo_sum_le fun j hj => (hG.share_in (show j < ws.length by omega)).2.1
  rw [mapTo_sum_const] at p2
  rw [wrap64 (n := shareM a ws m * allM ws) (by omega) (by omega), wrap64 (n := a * ws.getD m 0) (by omega) (by omega), wrap64 (n := shareM a ws m * allM ws - a * ws.getD m 0) (by omega) (by omega), wrap64 (n := 0 - allM ws) (by omega) (by omega), wrap64 (n := (m : Int) + 1) (by omega) (by omega), wrap64 (n := _ + shareM a ws m) (by omega) (by omega)]
  exact ⟨⟨by omega, by omega⟩, s1, fun h => hG.none hm' h, ⟨f1, by omega⟩, ⟨m + 1, by omega, by omega, mapTo_sum_succ.symm⟩, by omega⟩
theorem ime_mono {a : Int} {ws : List Int} (hr : rightM a ws = true) {i k : Int} (h1 : 0 ≤ i) (h2 : i < ws.length) (h3 : 0 ≤ k) (h4 : k < ws.length) (h : ws.getD i.toNat 0 < ws.getD k.toNat 0) : (splitL a ws).getD i.toNat 0 ≤ (splitL a ws).getD k.toNat 0 := by
  rw [splitL_get hr (by omega), splitL_get hr (by omega)]
  exact (goodM hr).mono (by omega) (by omega) h
theorem ime_end {a : Int} {ws : List Int} {i sum : Int} (hr : rightM a ws = true) (q : IMe a ws i sum) (hi : (splitL a ws).length ≤ i) : sum = a := by
  obtain ⟨m, hm, rfl, rfl⟩ := q
  rw [splitL_len hr] at hi
  rw [show m = ws.length by omega]
  exact (goodM hr).sum
theorem ir1_zero {ws : List Int} : IR1 ws 0 0 := ⟨0, Nat.zero_le _, rfl, fun x hx => by simp at hx, rfl⟩
theorem ir1_next {a : Int} {ws : List Int} {i w : Int} (h : IR1 ws i w) (hG : GoodM a ws) (hi : i < ws.length) : 0 ≤ i ∧ IR1 ws (IntKind.i64.wrap (i + 1)) (IntKind.i64.wrap (w + ws.getD i.toNat 0)) ∧ ws.length - (IntKind.i64.wrap (i + 1)).toNat < ws.length - i.toNat := by
  obtain ⟨f1, f2⟩ := ir1_more h hG.len hi
  have := hG.w _ (mem_getD (d := (0 : Int)) (show i.toNat < ws.length by omega))
  exact ⟨f1, (f2 this.1 this.2).1, (f2 this.1 this.2).2⟩
theorem kS_in (b : Int) : 1 ≤ kS b ∧ kS b ≤ 5 := by
  unfold kS
  have h1 : b.tmod 5 < 5 := Int.tmod_lt_of_pos _ (by omega)
  have h2 : -5 < b.tmod 5 := by
    have h := Int.tmod_lt_of_pos (-b) (show (0 : Int) < 5 by omega)
    rw [Int.neg_tmod] at h
    omega
  rw [wrap64 (n := b.tmod 5 + 5) (by omega) (by omega)]
  have h3 : (b.tmod 5 + 5).tmod 5 < 5 := Int.tmod_lt_of_pos _ (by omega)
  have h4 : 0 ≤ (b.tmod 5 + 5).tmod 5 := Int.tmod_nonneg _ (by omega)
  rw [wrap64 (by omega) (by omega)]
  omega
theorem take_getI {ws : List Int} {m : Nat} (h : m < ws.length) : ws.take (m + 1) = ws.take m ++ [ws.getD m 0] := by
  rw [List.take_succ_eq_append_getElem h]; simp [List.getD, h]
theorem ims_more {k : Int} {ws more : List Int} {i : Int} (hk : 1 ≤ k ∧ k ≤ 5) (hL : ws.length ≤ 1048576) (q : IMs k ws i more) (hi : i < ws.length) :
    0 ≤ i ∧ more.length ≤ 1048576 ∧ (ws.getD i.toNat 0 ≤ 200 → 0 ≤ ws.getD i.toNat 0 → IMs k ws (IntKind.i64.wrap (i + 1)) (more ++ [IntKind.i64.wrap (k * ws.getD i.toNat 0)])) ∧ ws.length - (IntKind.i64.wrap (i + 1)).toNat < ws.length - i.toNat := by
  obtain ⟨m, hm, rfl, hx, rfl⟩ := q
  rw [Int.toNat_natCast, wrap64 (n := (m : Int) + 1) (by omega) (by omega)]
  refine ⟨by omega, by rw [List.length_map, List.length_take]; omega, fun h1 h2 => ⟨m + 1, by omega, by omega, ?_, ?_⟩, by omega⟩
  · rw [take_getI (by omega)]
    intro x hx'
    rcases List.mem_append.1 hx' with h | h
    · exact hx x h
    · rw [List.mem_singleton] at h; omega
  · have p1 : 0 ≤ k * ws.getD m 0 := Int.mul_nonneg (by omega) h2
    have p2 : k * ws.getD m 0 ≤ 5 * 200 := Int.mul_le_mul hk.2 h1 h2 (by decide)
    rw [wrap64 (by omega) (by omega), take_getI (by omega), List.map_append]
    rfl
theorem ims_end {k : Int} {ws more : List Int} {i : Int} (hk : 1 ≤ k ∧ k ≤ 5) (q : IMs k ws i more) (hi : ws.length ≤ i) : more = ws.map (k * ·) ∧ (∀ w ∈ ws, 0 ≤ w ∧ w ≤ 200) ∧ more.length = ws.length ∧ ∀ n ∈ more, -9223372036854775808 ≤ n ∧ n ≤ 9223372036854775807 := by
  obtain ⟨m, hm, rfl, hx, rfl⟩ := q
  rw [List.take_of_length_le (by omega)] at *
  refine ⟨rfl, hx, by simp, fun n hn => ?_⟩
  obtain ⟨w, hw, rfl⟩ := List.mem_map.1 hn
  have := hx w hw
  have p1 : 0 ≤ k * w := Int.mul_nonneg (by omega) this.1
  have p2 : k * w ≤ 5 * 200 := Int.mul_le_mul hk.2 this.2 this.1 (by decide)
  omega
theorem splitL_le {a : Int} {ws : List Int} : (splitL a ws).length ≤ ws.length := by
  unfold splitL
  split
  · rw [mapTo_length]; exact Nat.le_refl _
  · simp
/-! The other way round. -/
theorem imt_zero {ws : List Int} (hL : ws.length ≤ 1048576) : IMt ws (IntKind.i64.wrap (ws.length - 1)) [] := ⟨ws.length, Nat.le_refl _, by rw [wrap64 (by omega) (by omega)], by simp⟩
theorem imt_more {ws back : List Int} {i : Int} (hL : ws.length ≤ 1048576) (q : IMt ws i back) (hi : 0 ≤ i) :
    i < ws.length ∧ back.length ≤ 1048576 ∧ IMt ws (IntKind.i64.wrap (i - 1)) (back ++ [ws.getD i.toNat 0]) ∧ (IntKind.i64.wrap (i - 1) + 1).toNat < (i + 1).toNat := by
  obtain ⟨m, hm, rfl, rfl⟩ := q
  obtain ⟨k, rfl⟩ : ∃ k, m = k + 1 := ⟨m - 1, by omega⟩
  rw [show ((k + 1 : Nat) : Int) - 1 = k by omega, Int.toNat_natCast, wrap64 (by omega) (by omega)]
  refine ⟨by omega, by rw [List.length_reverse, List.length_drop]; omega, ⟨k, by omega, rfl, ?_⟩, by omega⟩
  rw [List.drop_eq_getElem_cons (show k < ws.length by omega), List.reverse_cons]
  simp [List.getD, show k < ws.length by omega]
theorem imt_end {ws back : List Int} {i : Int} (q : IMt ws i back) (hi : i < 0) : back = ws.reverse := by
  obtain ⟨m, hm, rfl, rfl⟩ := q
  rw [show m = 0 by omega, List.drop_zero]
theorem mapTo_reverse {f : Nat → Int} {n : Nat} : mapTo (fun j => f (n - 1 - j)) n = (mapTo f n).reverse := by
  apply List.ext_getElem?
  intro k
  by_cases hk : k < n
  · rw [List.getElem?_reverse (by rw [mapTo_length]; exact hk), mapTo_length]
    have h2 : n - 1 - k < n := by omega
    simp [mapTo, hk, h2]
  · rw [List.getElem?_eq_none (by rw [mapTo_length]; omega), List.getElem?_eq_none (by rw [List.length_reverse, mapTo_length]; omega)]
theorem split_turn {a : Int} {ws : List Int} : splitE a ws.reverse = splitE a ws ∧ (splitL a ws.reverse).length = (splitL a ws).length := by
  unfold splitE splitL
  rw [right_reverse]
  refine ⟨rfl, ?_⟩
  split
  · rw [mapTo_length, mapTo_length, List.length_reverse]
  · rfl
theorem imu_more {a : Int} {ws : List Int} {i sum : Int} (q : IMu a ws i sum) (hi : i < (splitL a ws).length) :
    (0 ≤ i ∧ 0 ≤ IntKind.i64.wrap (IntKind.i64.wrap ((splitL a ws.reverse).length - 1) - i) ∧ IntKind.i64.wrap (IntKind.i64.wrap ((splitL a ws.reverse).length - 1) - i) < (splitL a ws.reverse).length) ∧
    (-1 ≤ IntKind.i64.wrap ((splitL a ws).getD i.toNat 0 - (splitL a ws.reverse).getD (IntKind.i64.wrap (IntKind.i64.wrap ((splitL a ws.reverse).length - 1) - i)).toNat 0) ∧
      IntKind.i64.wrap ((splitL a ws).getD i.toNat 0 - (splitL a ws.reverse).getD (IntKind.i64.wrap (IntKind.i64.wrap ((splitL a ws.reverse).length - 1) - i)).toNat 0) ≤ 1) ∧
    IMu a ws (IntKind.i64.wrap (i + 1)) (IntKind.i64.wrap (sum + IntKind.i64.wrap ((splitL a ws).getD i.toNat 0 - (splitL a ws.reverse).getD (IntKind.i64.wrap (IntKind.i64.wrap ((splitL a ws.reverse).length - 1) - i)).toNat 0))) ∧ (splitL a ws).length - (IntKind.i64.wrap (i + 1)).toNat < (splitL a ws).length - i.toNat := by
  have hr : rightM a ws = true := by
    cases h : rightM a ws
    · obtain ⟨m, hm, rfl, _⟩ := q
      unfold splitL at hi; rw [if_neg (by rw [h]; decide)] at hi; simp at hi; omega
    · rfl
  have hr' : rightM a ws.reverse = true := by rw [right_reverse]; exact hr
  have hG := goodM hr
  have hG' := goodM hr'
  obtain ⟨m, hm, rfl, rfl⟩ := q
  rw [splitL_len hr] at *
  rw [splitL_len hr', List.length_reverse]
  have hs := hG.len
  have hm' : m < ws.length := by omega
  rw [wrap64 (n := (ws.length : Int) - 1) (by omega) (by omega), wrap64 (n := (ws.length : Int) - 1 - m) (by omega) (by omega), show ((ws.length : Int) - 1 - m).toNat = ws.length - 1 - m by omega, Int.toNat_natCast, splitL_get hr hm', splitL_get hr' (by rw [List.length_reverse]; omega)]
  obtain ⟨n1, n2⟩ := near_reverse hG hm'
  have p1 : (mapTo (fun _ => (-1 : Int)) m).sum ≤ (mapTo (fun j => shareM a ws j - shareM a ws.reverse (ws.length - 1 - j)) m).sum := mapTo_sum_le fun j hj => (near_reverse hG (show j < ws.length by omega)).1
  have p2 : (mapTo (fun j => shareM a ws j - shareM a ws.reverse (ws.length - 1 - j)) m).sum ≤ (mapTo (fun _ => (1 : Int)) m).sum := mapTo_sum_le fun j hj => (near_reverse hG (show j < ws.length by omega)).2
  rw [mapTo_sum_const] at p1 p2
  rw [wrap64 (n := shareM a ws m - shareM a ws.reverse (ws.length - 1 - m)) (by omega) (by omega), wrap64 (n := (m : Int) + 1) (by omega) (by omega), wrap64 (n := _ + (shareM a ws m - shareM a ws.reverse (ws.length - 1 - m))) (by omega) (by omega)]
  exact ⟨⟨by omega, by omega, by omega⟩, ⟨n1, n2⟩, ⟨m + 1, by rw [splitL_len hr]; omega, by omega, mapTo_sum_succ.symm⟩, by omega⟩
theorem imu_end {a : Int} {ws : List Int} {i sum : Int} (q : IMu a ws i sum) (hi : (splitL a ws).length ≤ i) : sum = 0 := by
  obtain ⟨m, hm, rfl, rfl⟩ := q
  by_cases hr : rightM a ws = true
  · have hr' : rightM a ws.reverse = true := by rw [right_reverse]; exact hr
    rw [splitL_len hr] at hi hm
    rw [show m = ws.length by omega]
    have e := mapTo_sum_add (f := fun j => shareM a ws j - shareM a ws.reverse (ws.length - 1 - j)) (g := fun j => shareM a ws.reverse (ws.length - 1 - j)) (n := ws.length)
    have e2 : mapTo (fun i => shareM a ws i - shareM a ws.reverse (ws.length - 1 - i) + shareM a ws.reverse (ws.length - 1 - i)) ws.length = mapTo (shareM a ws) ws.length := mapTo_congr fun i _ => by omega
    rw [e2, (goodM hr).sum, mapTo_reverse, sum_reverse] at e
    have e3 := (goodM hr').sum
    rw [List.length_reverse] at e3
    rw [e3] at e
    omega
  · unfold splitL at hm
    rw [if_neg hr] at hm
    rw [show m = 0 by simpa using hm]; rfl
/-! Of more. -/
theorem more_at {a b : Int} {ws : List Int} {i : Int} (h0 : 0 ≤ a) (h1 : 0 ≤ b) (h2 : a + b ≤ 2147483648) (hi : 0 ≤ i) (h : i < (splitL a ws).length) : i < (splitL (a + b) ws).length ∧ IntKind.i64.wrap ((splitL a ws).getD i.toNat 0 - 1) ≤ (splitL (a + b) ws).getD i.toNat 0 := by
  have hr : rightM a ws = true := by
    cases h' : rightM a ws
    · unfold splitL at h; rw [if_neg (by rw [h']; decide)] at h; simp at h; omega
    · rfl
  have hr' : rightM (a + b) ws = true := by rw [← right_more (a := a) (b := a + b) h0 (by omega) (by omega) h2]; exact hr
  rw [splitL_len hr] at h
  rw [splitL_len hr', splitL_get hr (by omega), splitL_get hr' (by omega)]
  obtain ⟨s1, s2⟩ := (goodM hr).share (show i.toNat < ws.length by omega)
  obtain ⟨s3, s4⟩ := (goodM hr').share (show i.toNat < ws.length by omega)
  obtain ⟨s5, s6, _⟩ := (goodM hr).share_in (show i.toNat < ws.length by omega)
  have := q_mono (b := a + b) (goodM hr) (by omega) (show i.toNat < ws.length by omega)
  exact ⟨h, by rw [wrap64 (by omega) (by omega)]; omega⟩
theorem more_same {a b : Int} {ws : List Int} (h0 : 0 ≤ a) (h1 : 0 ≤ b) (h2 : a + b ≤ 2147483648) : splitE (a + b) ws = splitE a ws ∧ (splitL (a + b) ws).length = (splitL a ws).length := by
  unfold splitE splitL
  rw [right_more (a := a) (b := a + b) h0 (by omega) (by omega) h2]
  refine ⟨rfl, ?_⟩
  split
  · rw [mapTo_length, mapTo_length]
  · rfl
def IMo (a : Int) (ws : List Int) (i : Int) : Prop := 0 ≤ i ∧ i ≤ (splitL a ws).length


end Go.Proofs.Ytgajbggdamlhlaa.Sx
