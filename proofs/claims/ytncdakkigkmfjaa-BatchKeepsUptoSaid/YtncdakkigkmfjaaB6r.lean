import Derived.Test.YtncdakkigkmfjaaProg
import Derived.Test.YtncdakkigkmfjaaSxU
import Derived.IntWalk
import Derived.Test.YtncdakkigkmfjaaB5
/-! fareboxlaw17, BatchKeeps -/
namespace Go.Proofs.Ytncdakkigkmfjaa.Sx
open Go
set_option linter.unusedVariables false
set_option linter.unusedSimpArgs false
set_option maxRecDepth 100000

theorem acc_sorted {op : Int} : ∀ {js : List Journey} {last : Int}, accE op last js = 0 → js.Pairwise (fun a b => a.seq < b.seq) ∧ (∀ j ∈ js, last < j.seq ∧ j.seq ≤ lastS last js) ∧ last ≤ lastS last js
  | [], last, _ => ⟨.nil, fun j hj => by simp at hj, Int.le_refl _⟩
  | j :: r, last, h => by
    simp only [accE] at h
    split at h
    · cases h
    · split at h
      · cases h
      · rename_i h1 h2
        obtain ⟨g1, g2, g3⟩ := acc_sorted (js := r) h
        refine ⟨List.pairwise_cons.2 ⟨fun b hb => (g2 b hb).1, g1⟩, fun x hx => ?_, by simp only [lastS]; omega⟩
        simp only [lastS]
        rcases List.mem_cons.1 hx with rfl | hx
        · omega
        · have := g2 x hx; omega
def owedOf (open_ : List Batch) (loose : List Journey) : List Journey := open_.flatMap (·.js) ++ loose
structure KB (steps : Nat) (script : List OpB) (last n : Int) (loose : List Journey) (open_ : List Batch) (owed : List Journey) : Prop where
  eq : owed = owedOf open_ loose
  seqs : owed.Pairwise (fun a b => a.seq < b.seq)
  lst : ∀ j ∈ owed, j.seq ≤ last
  ns : open_.Pairwise (fun a b => a.n < b.n)
  top : ∀ x ∈ open_, x.n ≤ n ∧ x.js.length ≤ 8
  n0 : 0 ≤ n
  n1 : n ≤ steps
  len : owed.length ≤ ((script.take steps).map (·.js.length)).sum
  opn : open_.length ≤ steps
  all : (script.map (·.js.length)).sum ≤ 1048576
theorem sum_take_le (l : List Nat) (k : Nat) : (l.take k).sum ≤ l.sum := by
  have := congrArg List.sum (List.take_append_drop k l)
  rw [List.sum_append] at this
  omega
theorem KB.small {steps : Nat} {script : List OpB} {last n : Int} {loose owed : List Journey} {open_ : List Batch} (h : KB steps script last n loose open_ owed) : owed.length ≤ 1048576 ∧ loose.length ≤ 1048576 ∧ (open_.flatMap (·.js)).length ≤ 1048576 := by
  have h1 := sum_take_le (script.map (·.js.length)) steps
  rw [← List.map_take] at h1
  have h2 := h.len
  have h3 := h.all
  have h4 := h.eq
  have h5 : owed.length = (open_.flatMap (·.js)).length + loose.length := by rw [h4]; unfold owedOf; rw [List.length_append]
  omega
theorem KB.next {steps : Nat} {script : List OpB} {last n : Int} {loose owed : List Journey} {open_ : List Batch} (h : KB steps script last n loose open_ owed) : KB (steps + 1) script last n loose open_ owed := by
  obtain ⟨h1, h2, h3, h4, h5, h6, h7, h8, h9, h10⟩ := h
  refine ⟨h1, h2, h3, h4, h5, h6, by omega, ?_, by omega, h10⟩
  have : script.take steps = (script.take (steps + 1)).take steps := by rw [List.take_take, Nat.min_eq_left (by omega)]
  rw [this, List.map_take] at h8
  exact Nat.le_trans h8 (sum_take_le _ _)
theorem KB.accept {steps : Nat} {script : List OpB} {last n op : Int} {loose owed js : List Journey} {open_ : List Batch} (h : KB steps script last n loose open_ owed) (hs : steps < script.length) (hj : js = (script.getD steps ⟨0, 0, []⟩).js) (he : accE op last js = 0) :
    KB (steps + 1) script (accL op last js) n (accR op last loose js) open_ (owed ++ js) := by
  obtain ⟨g1, g2, g3⟩ := acc_sorted he
  unfold accL accR
  rw [if_pos he, if_pos he]
  obtain ⟨h1, h2, h3, h4, h5, h6, h7, h8, h9, h10⟩ := h
  refine ⟨by rw [h1]; unfold owedOf; rw [List.append_assoc], ?_, ?_, h4, h5, h6, by omega, ?_, by omega, h10⟩
  · rw [List.pairwise_append]
    exact ⟨h2, g1, fun a ha b hb => by have := h3 a ha; have := g2 b hb; omega⟩
  · intro j hj
    rcases List.mem_append.1 hj with hj | hj
    · have := h3 j hj; omega
    · exact (g2 j hj).2
  · rw [List.length_append, take_getD (d := (⟨0, 0, []⟩ : OpB)) hs, List.map_append, List.sum_append, hj]
    simp only [List.map_cons, List.map_nil, List.sum_cons, List.sum_nil]
    omega
theorem KB.refuse {steps : Nat} {script : List OpB} {last n op : Int} {loose owed js : List Journey} {open_ : List Batch} (h : KB steps script last n loose open_ owed) (he : accE op last js ≠ 0) :
    KB (steps + 1) script (accL op last js) n (accR op last loose js) open_ owed := by
  unfold accL accR
  rw [if_neg he, if_neg he]
  exact h.next
theorem KB.pack {steps : Nat} {script : List OpB} {last n op : Int} {loose owed : List Journey} {open_ : List Batch} (h : KB steps script last n loose open_ owed) (hc : canP n loose = true) :
    KB (steps + 1) script last (packN n loose) (packL n loose) (packO op n loose open_) owed ∧ (packX op n loose).n = n + 1 ∧ packN n loose = n + 1 ∧ 1 ≤ (packX op n loose).js.length ∧ (packX op n loose).js.length ≤ 8 := by
  unfold packN packL packO packX
  rw [if_pos hc, if_pos hc, if_pos hc, if_pos hc]
  have hl : loose ≠ [] := by unfold canP at hc; simp only [Bool.and_eq_true, decide_eq_true_eq] at hc; exact hc.1
  have hl := List.length_pos_iff.2 hl
  obtain ⟨h1, h2, h3, h4, h5, h6, h7, h8, h9, h10⟩ := h.next
  refine ⟨⟨?_, h2, h3, ?_, ?_, by omega, by have := h.n1; omega, h8, by have := h.opn; rw [List.length_append]; simp; omega, h10⟩, rfl, rfl, by rw [List.length_take]; omega, by rw [List.length_take]; omega⟩
  · rw [h1]; unfold owedOf
    rw [List.flatMap_append, List.append_assoc]
    congr 1
    simp
  · rw [List.pairwise_append]
    refine ⟨h4, by simp, fun a ha b hb => ?_⟩
    rw [List.mem_singleton] at hb
    rw [hb]
    have := (h5 a ha).1
    show a.n < n + 1
    omega
  · intro x hx
    rcases List.mem_append.1 hx with hx | hx
    · have := h5 x hx; exact ⟨by omega, this.2⟩
    · rw [List.mem_singleton] at hx
      rw [hx]
      exact ⟨Int.le_refl _, by rw [List.length_take]; omega⟩
theorem KB.nopack {steps : Nat} {script : List OpB} {last n op : Int} {loose owed : List Journey} {open_ : List Batch} (h : KB steps script last n loose open_ owed) (hc : canP n loose = false) :
    KB (steps + 1) script last (packN n loose) (packL n loose) (packO op n loose open_) owed ∧ packN n loose = n := by
  unfold packN packL packO
  rw [hc]
  exact ⟨h.next, rfl⟩
/-- Those of owed that are not among js. -/
def without (js owed : List Journey) : List Journey := owed.filter fun j => !(js.any fun z => decide (z = j))
def remK (N : Int) (os : List Batch) (owed : List Journey) : List Journey := (os.filter fun x => decide (x.n = N)).flatMap fun x => without x.js owed
theorem without_length (js owed : List Journey) : (without js owed).length ≤ owed.length := List.length_filter_le _ _
theorem remK_length (N : Int) (os : List Batch) (owed : List Journey) : (remK N os owed).length ≤ os.length * owed.length := by
  unfold remK
  have : ∀ l : List Batch, (l.flatMap fun x => without x.js owed).length ≤ l.length * owed.length := by
    intro l
    induction l with
    | nil => simp
    | cons x l ih =>
      have := without_length x.js owed
      simp only [List.flatMap_cons, List.length_append, List.length_cons]
      rw [Nat.add_mul, Nat.one_mul]
      omega
  exact Nat.le_trans (this _) (Nat.mul_le_mul_right _ (List.length_filter_le _ _))
theorem remK_snoc (N : Int) (os : List Batch) (x : Batch) (owed : List Journey) : remK N (os ++ [x]) owed = remK N os owed ++ if x.n = N then without x.js owed else [] := by
  unfold remK
  rw [List.filter_append, List.flatMap_append]
  congr 1
  by_cases e : x.n = N <;> simp [e]
theorem without_none {js l : List Journey} (h : ∀ a ∈ l, ∀ b ∈ js, b ≠ a) : without js l = l := by
  unfold without
  rw [List.filter_eq_self]
  intro a ha
  simp only [Bool.not_eq_true', List.any_eq_false, decide_eq_true_eq]
  exact fun b hb => h a ha b hb
theorem without_all {js : List Journey} : without js js = [] := by
  unfold without
  rw [List.filter_eq_nil_iff]
  intro a ha
  simp only [Bool.not_eq_true', Bool.not_eq_false, List.any_eq_true, decide_eq_true_eq]
  exact ⟨a, ha, rfl⟩
theorem without_append (js l r : List Journey) : without js (l ++ r) = without js l ++ without js r := by unfold without; rw [List.filter_append]
/-- What is left when a batch is acknowledged. -/
theorem KB.split {steps : Nat} {script : List OpB} {last n : Int} {loose owed : List Journey} {open_ : List Batch} (h : KB steps script last n loose open_ owed) {p : Nat} (hp : p < open_.length) :
    without (open_.getD p ⟨0, 0, []⟩).js owed = owedOf (open_.take p ++ open_.drop (p + 1)) loose ∧ (without (open_.getD p ⟨0, 0, []⟩).js owed).length + (open_.getD p ⟨0, 0, []⟩).js.length = owed.length := by
  have e : open_ = open_.take p ++ open_.getD p ⟨0, 0, []⟩ :: open_.drop (p + 1) := by rw [← drop_getB hp, List.take_append_drop]
  have h1 := h.eq
  have h2 := h.seqs
  generalize open_.getD p ⟨0, 0, []⟩ = x at *
  have e2 : owed = (open_.take p).flatMap (·.js) ++ (x.js ++ ((open_.drop (p + 1)).flatMap (·.js) ++ loose)) := by
    rw [h1]
    unfold owedOf
    conv => lhs; rw [e]
    rw [List.flatMap_append, List.flatMap_cons, List.append_assoc, List.append_assoc]
  have e3 : owedOf (open_.take p ++ open_.drop (p + 1)) loose = (open_.take p).flatMap (·.js) ++ ((open_.drop (p + 1)).flatMap (·.js) ++ loose) := by
    unfold owedOf; rw [List.flatMap_append, List.append_assoc]
  generalize (open_.take p).flatMap (·.js) = A at *
  generalize (open_.drop (p + 1)).flatMap (·.js) ++ loose = B at *
  have e4 : without x.js owed = A ++ B := by
    rw [e2, without_append, without_append, without_all, List.nil_append]
    rw [e2] at h2
    obtain ⟨_, g2, g3⟩ := List.pairwise_append.1 h2
    obtain ⟨_, _, g4⟩ := List.pairwise_append.1 g2
    rw [without_none, without_none]
    · intro a ha b hb hab
      have := g4 b hb a ha
      rw [hab] at this; omega
    · intro a ha b hb hab
      have := g3 a ha b (by simp [hb])
      rw [hab] at this; omega
  rw [e4, e3]
  refine ⟨rfl, ?_⟩
  rw [e2]
  simp only [List.length_append]
  omega
theorem KB.only {steps : Nat} {script : List OpB} {last n N : Int} {loose owed : List Journey} {open_ : List Batch} (h : KB steps script last n loose open_ owed) {j : Nat} (hj : j < open_.length) (hn : (open_.getD j ⟨0, 0, []⟩).n = N) : remK N (open_.take j) owed = [] := by
  have : (open_.take j).filter (fun x => decide (x.n = N)) = [] := by
    rw [List.filter_eq_nil_iff]
    intro x hx
    have hx' := hx
    have e : open_ = open_.take j ++ open_.getD j ⟨0, 0, []⟩ :: open_.drop (j + 1) := by rw [← drop_getB hj, List.take_append_drop]
    have h4 := h.ns
    rw [e] at h4
    obtain ⟨_, _, g⟩ := List.pairwise_append.1 h4
    have := g x hx (open_.getD j ⟨0, 0, []⟩) List.mem_cons_self
    simp only [decide_eq_true_eq]
    omega
  unfold remK
  rw [this]; rfl
theorem KB.ack {steps : Nat} {script : List OpB} {last n N : Int} {loose owed : List Journey} {open_ : List Batch} (h : KB steps script last n loose open_ owed) (hf : ackE N open_ = 0) : KB (steps + 1) script last n loose (delB N open_) (remK N open_ owed) := by
  unfold ackE at hf
  rcases findB_cases N open_ 0 with ⟨h1, _⟩ | ⟨p, hp, h2, h3⟩
  · rw [h1] at hf; simp at hf
  · have hd : delB N open_ = open_.take p ++ open_.drop (p + 1) := by
      unfold delB
      rw [h2, if_neg (by omega), show ((0 : Int) + p).toNat = p by omega]
    obtain ⟨s1, s2⟩ := h.split hp
    have e : open_ = open_.take p ++ open_.getD p ⟨0, 0, []⟩ :: open_.drop (p + 1) := by rw [← drop_getB hp, List.take_append_drop]
    have hr : remK N open_ owed = without (open_.getD p ⟨0, 0, []⟩).js owed := by
      have e1 : remK N open_ owed = remK N (open_.take p ++ [open_.getD p ⟨0, 0, []⟩]) owed ++ remK N (open_.drop (p + 1)) owed := by
        conv => lhs; rw [e]
        unfold remK
        rw [show open_.take p ++ open_.getD p ⟨0, 0, []⟩ :: open_.drop (p + 1) = (open_.take p ++ [open_.getD p ⟨0, 0, []⟩]) ++ open_.drop (p + 1) by simp]
        rw [List.filter_append, List.flatMap_append]
      rw [e1, remK_snoc, h.only hp h3, List.nil_append, if_pos h3]
      have : remK N (open_.drop (p + 1)) owed = [] := by
        unfold remK
        have : (open_.drop (p + 1)).filter (fun x => decide (x.n = N)) = [] := by
          rw [List.filter_eq_nil_iff]
          intro x hx
          have h4 := h.ns
          rw [e] at h4
          obtain ⟨_, g, _⟩ := List.pairwise_append.1 h4
          have := (List.pairwise_cons.1 g).1 x hx
          simp only [decide_eq_true_eq]
          omega
        rw [this]; rfl
      rw [this, List.append_nil]
    rw [hr, hd]
    have sub : (open_.take p ++ open_.drop (p + 1)).Sublist open_ := by
      conv => rhs; rw [e]
      exact List.Sublist.append (List.Sublist.refl _) (List.sublist_cons_self _ _)
    have sub2 : (without (open_.getD p ⟨0, 0, []⟩).js owed).Sublist owed := List.filter_sublist
    obtain ⟨h1, h2', h3', h4, h5, h6, h7, h8, h9, h10⟩ := h.next
    exact ⟨s1, h2'.sublist sub2, fun j hj => h3' j (sub2.subset hj), h4.sublist sub, fun x hx => h5 x (sub.subset hx), h6, h7, Nat.le_trans sub2.length_le h8, Nat.le_trans sub.length_le h9, h10⟩
theorem KB.noack {steps : Nat} {script : List OpB} {last n N : Int} {loose owed : List Journey} {open_ : List Batch} (h : KB steps script last n loose open_ owed) (hf : ackE N open_ ≠ 0) : KB (steps + 1) script last n loose (delB N open_) owed := by
  have : findB N open_ 0 < 0 := by
    unfold ackE at hf
    split at hf
    · assumption
    · exact absurd rfl hf
  unfold delB
  rw [if_pos this]
  exact h.next
def IKe (script : List OpB) (i cnt : Int) (owed : List Journey) (last n : Int) (loose : List Journey) (open_ : List Batch) : Prop := ∃ s : Nat, i = s ∧ s ≤ 80 ∧ s ≤ script.length ∧ cnt = n ∧ KB s script last n loose open_ owed
def IK27 (N : Int) (opn : List Batch) (owed : List Journey) (k : Int) (rest : List Journey) : Prop := ∃ j : Nat, j ≤ opn.length ∧ k = j ∧ rest = remK N (opn.take j) owed
def IK31 (J owed rest0 : List Journey) (j : Int) (rest : List Journey) : Prop := ∃ q : Nat, q ≤ owed.length ∧ j = q ∧ rest = rest0 ++ without J (owed.take q)
def IK35 (J : List Journey) (x : Journey) (z : Int) (gone : Bool) : Prop := ∃ q : Nat, q ≤ J.length ∧ z = q ∧ gone = (J.take q).any fun y => decide (y = x)
def IK46 (opn : List Batch) (k : Int) (now : List Journey) : Prop := ∃ j : Nat, j ≤ opn.length ∧ k = j ∧ now = (opn.take j).flatMap (·.js)
theorem js_le : ∀ (l : List OpB) (i : Nat), (l.getD i ⟨0, 0, []⟩).js.length ≤ (l.map (·.js.length)).sum
  | [], i => by simp
  | x :: l, 0 => by simp
  | x :: l, i + 1 => by
    have := js_le l i
    simp only [List.getD_cons_succ, List.map_cons, List.sum_cons]
    omega
theorem accR_le (o la : Int) (lo js : List Journey) : (accR o la lo js).length ≤ lo.length + js.length := by
  unfold accR; split <;> simp
theorem KB.b {steps : Nat} {script : List OpB} {last n : Int} {loose owed : List Journey} {open_ : List Batch} (h : KB steps script last n loose open_ owed) :
    owed.length ≤ 1048576 ∧ loose.length ≤ 1048576 ∧ open_.length ≤ steps ∧ (∀ x ∈ open_, x.js.length ≤ 1048576) ∧ (open_.flatMap (·.js)).length ≤ 1048576 ∧ open_.flatMap (·.js) ++ loose = owed := by
  obtain ⟨h1, h2, h3⟩ := h.small
  exact ⟨h1, h2, h.opn, fun x hx => by have := (h.top x hx).2; omega, h3, h.eq.symm⟩
theorem KB.zero {script : List OpB} (h : (script.map (·.js.length)).sum ≤ 1048576) : KB 0 script 0 0 [] [] [] :=
  ⟨rfl, .nil, fun j hj => by simp at hj, .nil, fun x hx => by simp at hx, Int.le_refl _, Int.le_refl _, by simp, by simp, h⟩
theorem ike_zero {script : List OpB} (h : (script.map (·.js.length)).sum ≤ 1048576) : IKe script 0 0 [] 0 0 [] [] := ⟨0, rfl, by omega, by omega, rfl, .zero h⟩
theorem ike_facts {script : List OpB} {I C la n : Int} {ow lo : List Journey} {op : List Batch} (o : Int) (q : IKe script I C ow la n lo op) :
    (0 ≤ I ∧ I ≤ 80 ∧ I ≤ script.length ∧ C = n ∧ 0 ≤ n ∧ n ≤ 80) ∧
    (ow.length ≤ 1048576 ∧ lo.length ≤ 1048576 ∧ op.length ≤ 81 ∧ (∀ x ∈ op, x.js.length ≤ 1048576) ∧ (op.flatMap (·.js)).length ≤ 1048576 ∧ op.flatMap (·.js) ++ lo = ow) ∧
    ((script.getD I.toNat ⟨0, 0, []⟩).js.length ≤ 1048576 ∧ (accR o la lo (script.getD I.toNat ⟨0, 0, []⟩).js).length ≤ 2097152) ∧
    ((packO o n lo op).length ≤ 81 ∧ (∀ x ∈ packO o n lo op, x.js.length ≤ 1048576) ∧ ((packO o n lo op).flatMap (·.js)).length ≤ 1048576 ∧ (packL n lo).length ≤ 1048576 ∧ (packO o n lo op).flatMap (·.js) ++ packL n lo = ow) ∧
    ((delB (script.getD I.toNat ⟨0, 0, []⟩).n op).length ≤ 81 ∧ (∀ x ∈ delB (script.getD I.toNat ⟨0, 0, []⟩).n op, x.js.length ≤ 1048576) ∧ ((delB (script.getD I.toNat ⟨0, 0, []⟩).n op).flatMap (·.js)).length ≤ 1048576) := by
  obtain ⟨s, rfl, h80, hs, rfl, k⟩ := q
  obtain ⟨b1, b2, b3, b4, b5, b6⟩ := k.b
  have hj := js_le script s
  have ha := k.all
  have hl := accR_le o la lo (script.getD s ⟨0, 0, []⟩).js
  rw [Int.toNat_natCast]
  refine ⟨⟨by omega, by omega, by omega, rfl, k.n0, by have := k.n1; omega⟩, ⟨b1, b2, by omega, b4, b5, b6⟩, ⟨by omega, by omega⟩, ?_, ?_⟩
  · by_cases hc : canP C lo = true
    · obtain ⟨c1, c2, c3, c4, c5, c6⟩ := (k.pack (op := o) hc).1.b
      exact ⟨by omega, c4, c5, c2, c6⟩
    · obtain ⟨c1, c2, c3, c4, c5, c6⟩ := (k.nopack (op := o) (by simpa using hc)).1.b
      exact ⟨by omega, c4, c5, c2, c6⟩
  · by_cases hc : ackE (script.getD s ⟨0, 0, []⟩).n op = 0
    · obtain ⟨c1, c2, c3, c4, c5, c6⟩ := (k.ack hc).b
      exact ⟨by omega, c4, c5⟩
    · obtain ⟨c1, c2, c3, c4, c5, c6⟩ := (k.noack hc).b
      exact ⟨by omega, c4, c5⟩
theorem step80 {s : Nat} (h : (s : Int) < 80) : IntKind.i64.wrap ((s : Int) + 1) = ((s + 1 : Nat) : Int) ∧ 80 - ((s + 1 : Nat) : Int).toNat < 80 - ((s : Int)).toNat := by
  rw [wrap64 (by omega) (by omega)]; exact ⟨by omega, by omega⟩
theorem ike_acc {script : List OpB} {I C la n : Int} {ow lo : List Journey} {op : List Batch} {o : Int} (q : IKe script I C ow la n lo op) (h : I < script.length) (h80 : I < 80) (he : accE o la (script.getD I.toNat ⟨0, 0, []⟩).js = 0) :
    IKe script (IntKind.i64.wrap (I + 1)) C (ow ++ (script.getD I.toNat ⟨0, 0, []⟩).js) (accL o la (script.getD I.toNat ⟨0, 0, []⟩).js) n (accR o la lo (script.getD I.toNat ⟨0, 0, []⟩).js) op ∧ 80 - (IntKind.i64.wrap (I + 1)).toNat < 80 - I.toNat := by
  obtain ⟨s, rfl, _, hs, rfl, k⟩ := q
  rw [Int.toNat_natCast] at *
  rw [(step80 h80).1]
  exact ⟨⟨s + 1, rfl, by omega, by omega, rfl, k.accept (by omega) rfl he⟩, (step80 h80).2⟩
theorem ike_ref {script : List OpB} {I C la n : Int} {ow lo : List Journey} {op : List Batch} {o : Int} (q : IKe script I C ow la n lo op) (h : I < script.length) (h80 : I < 80) (he : accE o la (script.getD I.toNat ⟨0, 0, []⟩).js ≠ 0) :
    IKe script (IntKind.i64.wrap (I + 1)) C ow (accL o la (script.getD I.toNat ⟨0, 0, []⟩).js) n (accR o la lo (script.getD I.toNat ⟨0, 0, []⟩).js) op ∧ 80 - (IntKind.i64.wrap (I + 1)).toNat < 80 - I.toNat := by
  obtain ⟨s, rfl, _, hs, rfl, k⟩ := q
  rw [Int.toNat_natCast] at *
  rw [(step80 h80).1]
  exact ⟨⟨s + 1, rfl, by omega, by omega, rfl, k.refuse he⟩, (step80 h80).2⟩
theorem ike_pack {script : List OpB} {I C la n : Int} {ow lo : List Journey} {op : List Batch} (o : Int) (q : IKe script I C ow la n lo op) (hc : canP n lo = true) (h : I < script.length) (h80 : I < 80) :
    (IKe script (IntKind.i64.wrap (I + 1)) (IntKind.i64.wrap (C + 1)) ow la (packN n lo) (packL n lo) (packO o n lo op) ∧ 80 - (IntKind.i64.wrap (I + 1)).toNat < 80 - I.toNat) ∧ (packX o n lo).n = IntKind.i64.wrap (C + 1) ∧ 1 ≤ (packX o n lo).js.length ∧ (packX o n lo).js.length ≤ 8 := by
  obtain ⟨s, rfl, _, hs, rfl, k⟩ := q
  rw [(step80 h80).1]
  obtain ⟨p1, p2, p3, p4, p5⟩ := k.pack (op := o) hc
  have h0 := k.n0
  have h1 := k.n1
  have e : IntKind.i64.wrap (C + 1) = C + 1 := wrap64 (by omega) (by omega)
  rw [e]
  exact ⟨⟨⟨s + 1, rfl, by omega, by omega, p3.symm, p1⟩, (step80 h80).2⟩, p2, p4, p5⟩
theorem ike_nopack {script : List OpB} {I C la n : Int} {ow lo : List Journey} {op : List Batch} (o : Int) (q : IKe script I C ow la n lo op) (hc : canP n lo = false) (h : I < script.length) (h80 : I < 80) :
    IKe script (IntKind.i64.wrap (I + 1)) C ow la (packN n lo) (packL n lo) (packO o n lo op) ∧ 80 - (IntKind.i64.wrap (I + 1)).toNat < 80 - I.toNat := by
  obtain ⟨s, rfl, _, hs, rfl, k⟩ := q
  rw [(step80 h80).1]
  obtain ⟨p1, p2⟩ := k.nopack (op := o) hc
  exact ⟨⟨s + 1, rfl, by omega, by omega, p2.symm, p1⟩, (step80 h80).2⟩
theorem ike_next {script : List OpB} {I C la n : Int} {ow lo : List Journey} {op : List Batch} (q : IKe script I C ow la n lo op) (h : I < script.length) (h80 : I < 80) :
    IKe script (IntKind.i64.wrap (I + 1)) C ow la n lo op ∧ 80 - (IntKind.i64.wrap (I + 1)).toNat < 80 - I.toNat := by
  obtain ⟨s, rfl, _, hs, rfl, k⟩ := q
  rw [(step80 h80).1]
  exact ⟨⟨s + 1, rfl, by omega, by omega, rfl, k.next⟩, (step80 h80).2⟩
theorem ike_noack {script : List OpB} {I C la n : Int} {ow lo : List Journey} {op : List Batch} (q : IKe script I C ow la n lo op) (h : I < script.length) (h80 : I < 80) {N : Int} (hf : ackE N op ≠ 0) :
    IKe script (IntKind.i64.wrap (I + 1)) C ow la n lo (delB N op) ∧ 80 - (IntKind.i64.wrap (I + 1)).toNat < 80 - I.toNat := by
  obtain ⟨s, rfl, _, hs, rfl, k⟩ := q
  rw [(step80 h80).1]
  exact ⟨⟨s + 1, rfl, by omega, by omega, rfl, k.noack hf⟩, (step80 h80).2⟩
theorem ik27_end {N : Int} {op : List Batch} {ow rest : List Journey} {k : Int} (q : IK27 N op ow k rest) (h : op.length ≤ k) : rest = remK N op ow := by
  obtain ⟨j, hj, rfl, rfl⟩ := q
  rw [List.take_of_length_le (by omega)]
theorem ike_ack {script : List OpB} {I C la n : Int} {ow lo rest : List Journey} {op : List Batch} {k : Int} (q : IKe script I C ow la n lo op) (h : I < script.length) (h80 : I < 80) {N : Int} (hf : ackE N op = 0) (q2 : IK27 N op ow k rest) (hk : op.length ≤ k) :
    (IKe script (IntKind.i64.wrap (I + 1)) C rest la n lo (delB N op) ∧ 80 - (IntKind.i64.wrap (I + 1)).toNat < 80 - I.toNat) ∧ (delB N op).flatMap (·.js) ++ lo = rest ∧ rest.length ≤ 1048576 := by
  obtain ⟨s, rfl, _, hs, rfl, k⟩ := q
  rw [(step80 h80).1, ik27_end q2 hk]
  obtain ⟨c1, c2, c3, c4, c5, c6⟩ := (k.ack hf).b
  exact ⟨⟨⟨s + 1, rfl, by omega, by omega, rfl, k.ack hf⟩, (step80 h80).2⟩, c6, c1⟩
theorem ik46_more {op : List Batch} {k : Int} {now : List Journey} (q : IK46 op k now) (h : k < op.length) (hl : op.length ≤ 81) (hm : ∀ x ∈ op, x.js.length ≤ 1048576) :
    0 ≤ k ∧ (op.getD k.toNat ⟨0, 0, []⟩).js.length ≤ 1048576 ∧ IK46 op (IntKind.i64.wrap (k + 1)) (now ++ (op.getD k.toNat ⟨0, 0, []⟩).js) ∧ op.length - (IntKind.i64.wrap (k + 1)).toNat < op.length - k.toNat := by
  obtain ⟨j, hj, rfl, rfl⟩ := q
  rw [Int.toNat_natCast, wrap64 (by omega) (by omega)]
  refine ⟨by omega, hm _ (mem_getD (by omega)), ⟨j + 1, by omega, by omega, ?_⟩, by omega⟩
  rw [take_getB (by omega), List.flatMap_append]; simp
theorem ik46_len {op : List Batch} {k : Int} {now : List Journey} (q : IK46 op k now) (hf : (op.flatMap (·.js)).length ≤ 1048576) : now.length ≤ 1048576 := by
  obtain ⟨j, hj, rfl, rfl⟩ := q
  have e : op.flatMap (·.js) = (op.take j).flatMap (·.js) ++ (op.drop j).flatMap (·.js) := by rw [← List.flatMap_append, List.take_append_drop]
  rw [e, List.length_append] at hf
  omega
theorem ik46_end {op : List Batch} {k : Int} {now : List Journey} (q : IK46 op k now) (h : op.length ≤ k) : now = op.flatMap (·.js) := by
  obtain ⟨j, hj, rfl, rfl⟩ := q
  rw [List.take_of_length_le (by omega)]
theorem ik46_zero (op : List Batch) : IK46 op 0 [] := ⟨0, by omega, rfl, by simp⟩
theorem ik27_zero (N : Int) (op : List Batch) (ow : List Journey) : IK27 N op ow 0 [] := ⟨0, by omega, rfl, by simp [remK]⟩
theorem ik27_pos {N : Int} {op : List Batch} {ow rest : List Journey} {k : Int} (q : IK27 N op ow k rest) : 0 ≤ k := by obtain ⟨j, _, rfl, _⟩ := q; omega
theorem ik31_zero (J ow r0 : List Journey) : IK31 J ow r0 0 r0 := ⟨0, by omega, rfl, by simp [without]⟩
theorem ik31_pos {J ow r0 r : List Journey} {j : Int} (q : IK31 J ow r0 j r) : 0 ≤ j := by obtain ⟨q, _, rfl, _⟩ := q; omega
theorem ik35_zero (J : List Journey) (x : Journey) : IK35 J x 0 false := ⟨0, by omega, rfl, by simp⟩
theorem ik35_pos {J : List Journey} {x : Journey} {z : Int} {g : Bool} (q : IK35 J x z g) : 0 ≤ z := by obtain ⟨q, _, rfl, _⟩ := q; omega
theorem ik27_skip {N : Int} {op : List Batch} {ow rest : List Journey} {k : Int} (q : IK27 N op ow k rest) (h : k < op.length) (hl : op.length ≤ 81) (hn : (op.getD k.toNat ⟨0, 0, []⟩).n ≠ N) :
    IK27 N op ow (IntKind.i64.wrap (k + 1)) rest ∧ op.length - (IntKind.i64.wrap (k + 1)).toNat < op.length - k.toNat := by
  obtain ⟨j, hj, rfl, rfl⟩ := q
  rw [Int.toNat_natCast] at *
  rw [wrap64 (by omega) (by omega)]
  refine ⟨⟨j + 1, by omega, by omega, ?_⟩, by omega⟩
  rw [take_getB (by omega), remK_snoc, if_neg hn, List.append_nil]
theorem ik27_take {N : Int} {op : List Batch} {ow r0 rest : List Journey} {k j : Int} (q : IK27 N op ow k r0) (h : k < op.length) (hl : op.length ≤ 81) (hn : (op.getD k.toNat ⟨0, 0, []⟩).n = N)
    (q2 : IK31 (op.getD k.toNat ⟨0, 0, []⟩).js ow r0 j rest) (hj : ow.length ≤ j) :
    IK27 N op ow (IntKind.i64.wrap (k + 1)) rest ∧ op.length - (IntKind.i64.wrap (k + 1)).toNat < op.length - k.toNat := by
  obtain ⟨i, hi, rfl, rfl⟩ := q
  obtain ⟨p, hp, rfl, rfl⟩ := q2
  rw [Int.toNat_natCast] at *
  rw [wrap64 (by omega) (by omega)]
  refine ⟨⟨i + 1, by omega, by omega, ?_⟩, by omega⟩
  rw [take_getB (by omega), remK_snoc, if_pos hn, List.take_of_length_le (by omega : ow.length ≤ p)]
theorem ik27_full {script : List OpB} {I C la n : Int} {ow lo : List Journey} {op : List Batch} {N : Int} {r0 rest : List Journey} {k j : Int} (q0 : IKe script I C ow la n lo op) (q : IK27 N op ow k r0) (h : k < op.length) (hn : (op.getD k.toNat ⟨0, 0, []⟩).n = N)
    (q2 : IK31 (op.getD k.toNat ⟨0, 0, []⟩).js ow r0 j rest) (hj : ow.length ≤ j) : (rest.length : Int) = IntKind.i64.wrap (ow.length - (op.getD k.toNat ⟨0, 0, []⟩).js.length) := by
  obtain ⟨s, rfl, _, hs, rfl, kb⟩ := q0
  obtain ⟨i, hi, rfl, rfl⟩ := q
  obtain ⟨p, hp, rfl, rfl⟩ := q2
  rw [Int.toNat_natCast] at *
  rw [kb.only (by omega) hn, List.nil_append, List.take_of_length_le (by omega : ow.length ≤ p)]
  have h1 := (kb.split (p := i) (by omega)).2
  have h2 := kb.b.1
  rw [wrap64 (by omega) (by omega)]
  omega
theorem take_getJ {l : List Journey} {j : Nat} (h : j < l.length) : l.take (j + 1) = l.take j ++ [l.getD j zJ] := by
  rw [List.take_succ_eq_append_getElem h]; simp [List.getD, h]
theorem ik35_more {J : List Journey} {x : Journey} {z : Int} {g : Bool} (q : IK35 J x z g) (h : z < J.length) (hl : J.length ≤ 1048576) :
    IK35 J x (IntKind.i64.wrap (z + 1)) (g || decide (J.getD z.toNat zJ = x)) ∧ J.length - (IntKind.i64.wrap (z + 1)).toNat < J.length - z.toNat := by
  obtain ⟨p, hp, rfl, rfl⟩ := q
  rw [Int.toNat_natCast, wrap64 (by omega) (by omega)]
  refine ⟨⟨p + 1, by omega, by omega, ?_⟩, by omega⟩
  rw [take_getJ (by omega), List.any_append]; simp
theorem ik31_more {J ow r0 r : List Journey} {j z : Int} {g : Bool} (q : IK31 J ow r0 j r) (h : j < ow.length) (hl : ow.length ≤ 1048576) (q2 : IK35 J (ow.getD j.toNat zJ) z g) (hz : J.length ≤ z) :
    IK31 J ow r0 (IntKind.i64.wrap (j + 1)) (if g then r else r ++ [ow.getD j.toNat zJ]) ∧ ow.length - (IntKind.i64.wrap (j + 1)).toNat < ow.length - j.toNat := by
  obtain ⟨p, hp, rfl, rfl⟩ := q
  obtain ⟨i, hi, rfl, rfl⟩ := q2
  rw [Int.toNat_natCast] at *
  rw [wrap64 (by omega) (by omega), List.take_of_length_le (by omega : J.length ≤ i)]
  refine ⟨⟨p + 1, by omega, by omega, ?_⟩, by omega⟩
  rw [take_getJ (by omega)]
  unfold without
  rw [List.filter_append]
  cases hb : J.any fun y => decide (y = ow.getD p zJ) <;> simp only [List.filter_cons, List.filter_nil, hb] <;> simp
theorem ik31_len {J ow r0 r : List Journey} {j : Int} (q : IK31 J ow r0 j r) : r.length ≤ r0.length + ow.length := by
  obtain ⟨p, hp, rfl, rfl⟩ := q
  have := without_length J (ow.take p)
  rw [List.length_append]
  rw [List.length_take] at this
  omega
theorem ik27_len {N : Int} {op : List Batch} {ow rest : List Journey} {k : Int} (q : IK27 N op ow k rest) (hl : op.length ≤ 81) (ho : ow.length ≤ 1048576) : rest.length ≤ 84934656 := by
  obtain ⟨j, hj, rfl, rfl⟩ := q
  refine Nat.le_trans (remK_length _ _ _) (Nat.le_trans (Nat.mul_le_mul (show (op.take j).length ≤ 81 by rw [List.length_take]; omega) ho) (by decide))
theorem op_range (op : Int) : 1 ≤ IntKind.i64.wrap (1 + (IntKind.i64.wrap (op.tmod 4 + 4)).tmod 4) ∧ IntKind.i64.wrap (1 + (IntKind.i64.wrap (op.tmod 4 + 4)).tmod 4) ≤ 4 := by
  have h1 : op.tmod 4 < 4 := Int.tmod_lt_of_pos _ (by omega)
  have h2 : -4 < op.tmod 4 := by
    have h := Int.tmod_lt_of_pos (-op) (show (0 : Int) < 4 by omega)
    rw [Int.neg_tmod] at h
    omega
  rw [wrap64 (n := op.tmod 4 + 4) (by omega) (by omega)]
  have h3 : (op.tmod 4 + 4).tmod 4 < 4 := Int.tmod_lt_of_pos _ (by omega)
  have h4 : 0 ≤ (op.tmod 4 + 4).tmod 4 := Int.tmod_nonneg _ (by omega)
  rw [wrap64 (by omega) (by omega)]
  omega
theorem ik31_add {J ow r0 r : List Journey} {j z : Int} {g : Bool} (q : IK31 J ow r0 j r) (h : j < ow.length) (hl : ow.length ≤ 1048576) (q2 : IK35 J (ow.getD j.toNat zJ) z g) (hz : J.length ≤ z) (hg : g = false) :
    IK31 J ow r0 (IntKind.i64.wrap (j + 1)) (r ++ [ow.getD j.toNat zJ]) ∧ ow.length - (IntKind.i64.wrap (j + 1)).toNat < ow.length - j.toNat := by
  subst hg; exact ik31_more q h hl q2 hz
theorem ik31_gone {J ow r0 r : List Journey} {j z : Int} {g : Bool} (q : IK31 J ow r0 j r) (h : j < ow.length) (hl : ow.length ≤ 1048576) (q2 : IK35 J (ow.getD j.toNat zJ) z g) (hz : J.length ≤ z) (hg : g = true) :
    IK31 J ow r0 (IntKind.i64.wrap (j + 1)) r ∧ ow.length - (IntKind.i64.wrap (j + 1)).toNat < ow.length - j.toNat := by
  subst hg; exact ik31_more q h hl q2 hz
theorem ik35_t {J : List Journey} {x : Journey} {z : Int} {g : Bool} (q : IK35 J x z g) (h : z < J.length) (hl : J.length ≤ 1048576) (hg : g = true) :
    IK35 J x (IntKind.i64.wrap (z + 1)) true ∧ J.length - (IntKind.i64.wrap (z + 1)).toNat < J.length - z.toNat := by
  subst hg; simpa using ik35_more q h hl
theorem ik35_f {J : List Journey} {x : Journey} {z : Int} {g : Bool} (q : IK35 J x z g) (h : z < J.length) (hl : J.length ≤ 1048576) (hg : g = false) :
    IK35 J x (IntKind.i64.wrap (z + 1)) (decide (J.getD z.toNat zJ = x)) ∧ J.length - (IntKind.i64.wrap (z + 1)).toNat < J.length - z.toNat := by
  subst hg; have := ik35_more q h hl; rwa [Bool.false_or] at this
theorem opB_sum {l : List OpB} (h : (l.map fun y => wt .opB y + 1).sum ≤ 1048576) : l.length ≤ 1048576 ∧ (l.map (·.js.length)).sum ≤ 1048576 := by
  have e1 : ∀ js : List Journey, js.length ≤ (js.map fun y => wt_journey y + 1).sum := by
    intro js
    induction js with
    | nil => simp
    | cons j js ih => simp only [List.length_cons, List.map_cons, List.sum_cons]; omega
  have e2 : ∀ l : List OpB, l.length ≤ (l.map fun y => wt .opB y + 1).sum ∧ (l.map (·.js.length)).sum ≤ (l.map fun y => wt .opB y + 1).sum := by
    intro l
    induction l with
    | nil => simp
    | cons x l ih =>
      simp only [List.length_cons, List.map_cons, List.sum_cons]
      have h2 : wt .opB x = (x.js.map fun y => wt_journey y + 1).sum := rfl
      have h3 := e1 x.js
      omega
  have := e2 l
  omega


end Go.Proofs.Ytncdakkigkmfjaa.Sx
