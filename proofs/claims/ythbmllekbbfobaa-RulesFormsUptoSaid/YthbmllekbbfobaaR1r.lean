import Derived.Test.YthbmllekbbfobaaProg
import Derived.Test.YthbmllekbbfobaaSxU
import Derived.IntWalk
import Derived.Test.YthbmllekbbfobaaM3
import Derived.Test.YthbmllekbbfobaaF3
/-! rules -/
namespace Go.Proofs.Ythbmllekbbfobaa.Sx
open Go
set_option linter.unusedVariables false
set_option linter.unusedSimpArgs false
set_option maxRecDepth 100000

def zRu : Rule := ⟨0, 0, []⟩
def ride21 : Journey := ⟨1, 1, 7, 2, 9, 1, 1, 4, 10, 3⟩
def rightR (r : Rule) (ops : Int) : Bool := decide (1 ≤ r.owner ∧ r.owner ≤ ops ∧ 1 ≤ r.op ∧ r.op ≤ ops ∧ 1 ≤ (r.weights.length : Int) ∧ (r.weights.length : Int) ≤ ops) && rightM 0 r.weights
def orI : List Int → Int
  | [] => 0
  | x :: l => if x = 0 then orI l else x
def ordR (a b : Rule) : Int := if cmpI a.owner b.owner = 0 then cmpI a.op b.op else cmpI a.owner b.owner
theorem cmpI_zero {x y : Int} : cmpI x y = 0 ↔ x = y := by
  unfold cmpI
  split
  · constructor <;> intro h <;> omega
  · split
    · constructor <;> intro h <;> omega
    · constructor <;> intro h <;> omega
theorem ordR_zero {a b : Rule} : ordR a b = 0 ↔ a.owner = b.owner ∧ a.op = b.op := by
  unfold ordR
  split
  · rename_i h; rw [cmpI_zero] at h ⊢; simp [h]
  · rename_i h
    have h' := h
    rw [cmpI_zero] at h'
    exact ⟨fun e => absurd e h, fun e => absurd e.1 h'⟩
theorem ordR_neg {a b : Rule} : ordR a b < 0 ↔ a.owner < b.owner ∨ a.owner = b.owner ∧ a.op < b.op := by
  unfold ordR
  split
  · rename_i h; rw [cmpI_zero] at h; rw [cmpI_neg]; omega
  · rename_i h; rw [cmpI_zero] at h; rw [cmpI_neg]; omega
theorem orI_two (x y : Int) : orI [x, y] = if x = 0 then y else x := by
  simp only [orI]
  split
  · split
    · omega
    · rfl
  · rfl
def IOr (vals : List Int) (i : Int) : Prop := ∃ j : Nat, j ≤ vals.length ∧ i = j ∧ orI (vals.drop j) = orI vals
theorem orI_at {vals : List Int} {j : Nat} (hj : j < vals.length) : orI (vals.drop j) = if vals.getD j 0 = 0 then orI (vals.drop (j + 1)) else vals.getD j 0 := by
  rw [List.drop_eq_getElem_cons hj]
  have : vals.getD j 0 = vals[j] := by simp [List.getD, hj]
  rw [this]
  rfl
def eqS (a b : List Int) (i : Int) : Prop := ∃ j : Nat, j ≤ a.length ∧ i = j ∧ a.take j = b.take j
def eqSh (a b : List Share) (i : Int) : Prop := ∃ j : Nat, j ≤ a.length ∧ i = j ∧ a.take j = b.take j
/-- The last rule of an owner and an operator. -/
def lastR (owner op : Int) : List Rule → Int
  | [] => -1
  | x :: l => if 0 ≤ lastR owner op l then lastR owner op l + 1 else if x.owner = owner ∧ x.op = op then 0 else -1
def isR (owner op : Int) (l : List Rule) (c : Nat) : Prop := (l.getD c ⟨0, 0, []⟩).owner = owner ∧ (l.getD c ⟨0, 0, []⟩).op = op
theorem lastR_none {o p : Int} : ∀ {l : List Rule}, (∀ c, c < l.length → ¬ isR o p l c) → lastR o p l = -1
  | [], _ => rfl
  | x :: l, h => by
    have ih := lastR_none (o := o) (p := p) (l := l) (fun c hc => by have := h (c + 1) (by simp only [List.length_cons]; omega); simpa [isR] using this)
    have h0 := h 0 (by simp)
    simp only [isR, List.getD_cons_zero] at h0
    rw [lastR, ih, if_neg (by omega), if_neg h0]
theorem lastR_at {o p : Int} : ∀ {l : List Rule} {k : Nat}, k < l.length → isR o p l k → (∀ c, k < c → c < l.length → ¬ isR o p l c) → lastR o p l = k
  | [], k, hk, _, _ => by simp at hk
  | x :: l, 0, _, h0, h => by
    have ih := lastR_none (o := o) (p := p) (l := l) (fun c hc => by have := h (c + 1) (by omega) (by simp only [List.length_cons]; omega); simpa [isR] using this)
    simp only [isR, List.getD_cons_zero] at h0
    rw [lastR, ih, if_neg (by omega), if_pos h0]
    rfl
  | x :: l, k + 1, hk, h0, h => by
    simp only [List.length_cons] at hk
    have ih := lastR_at (o := o) (p := p) (l := l) (k := k) (by omega) (by simpa [isR] using h0) (fun c hc hl => by have := h (c + 1) (by omega) (by simp only [List.length_cons]; omega); simpa [isR] using this)
    rw [lastR, ih, if_pos (by omega)]
    omega
def ILa (l : List Rule) (owner op i : Int) : Prop := ∃ j : Nat, j ≤ l.length ∧ i = (j : Int) - 1 ∧ ∀ c, j ≤ c → c < l.length → ¬ isR owner op l c
theorem rightR_in {o p ops : Int} {ws : List Int} (h : 1 ≤ o ∧ o ≤ ops ∧ 1 ≤ p ∧ p ≤ ops ∧ 1 ≤ (ws.length : Int) ∧ (ws.length : Int) ≤ ops) : rightR ⟨o, p, ws⟩ ops = rightM 0 ws := by
  simp only [rightR]
  rw [decide_eq_true h, Bool.true_and]
def IRt21 (ws : List Int) (i s : Int) : Prop := ∃ j : Nat, j ≤ ws.length ∧ i = j ∧ s = (ws.take j).sum ∧ ∀ x ∈ ws.take j, 0 ≤ x ∧ x ≤ 1000
theorem sum_rng : ∀ {l : List Int}, (∀ x ∈ l, 0 ≤ x ∧ x ≤ 1000) → 0 ≤ l.sum ∧ l.sum ≤ 1000 * l.length
  | [], _ => ⟨by simp, by simp⟩
  | x :: l, h => by
    have ih := sum_rng (l := l) fun y hy => h y (by simp [hy])
    have := h x (by simp)
    simp only [List.sum_cons, List.length_cons]
    omega
theorem sum_pos : ∀ {l : List Int}, (∀ x ∈ l, 0 ≤ x ∧ x ≤ 1000) → (0 < l.sum ↔ ∃ x ∈ l, 0 < x)
  | [], _ => by simp
  | x :: l, h => by
    have hl : ∀ y ∈ l, 0 ≤ y ∧ y ≤ 1000 := fun y hy => h y (by simp [hy])
    have ih := sum_pos (l := l) hl
    have hr := sum_rng hl
    have := h x (by simp)
    simp only [List.sum_cons, List.mem_cons, exists_eq_or_imp]
    rw [← ih]
    omega
theorem rightM_sm {ws : List Int} (h : ∀ x ∈ ws, 0 ≤ x ∧ x ≤ 1000) (hl : ws.length ≤ 16) : rightM 0 ws = decide (0 < ws.sum) := by
  have h1 : ws.all (fun w => decide (0 ≤ w) && decide (w ≤ 1000)) = true := List.all_eq_true.2 fun x hx => by have := h x hx; simp [this.1, this.2]
  have h2 : ws.any (fun w => decide (0 < w)) = decide (0 < ws.sum) := by
    rw [Bool.eq_iff_iff, List.any_eq_true, decide_eq_true_iff, sum_pos h]
    simp
  rw [rightM, h1, h2]
  simp [hl]
theorem rightM_bd {ws : List Int} {j : Nat} (hj : j < ws.length) (h : ws.getD j 0 < 0 ∨ 1000 < ws.getD j 0) : rightM 0 ws = false := by
  have hm : ws.getD j 0 ∈ ws := mem_getD hj
  have h1 : ws.all (fun w => decide (0 ≤ w) && decide (w ≤ 1000)) = false := by
    rw [List.all_eq_false]
    refine ⟨_, hm, ?_⟩
    simp only [Bool.and_eq_true, decide_eq_true_eq]
    omega
  rw [rightM, h1]
  simp
def ICp (l : List Rule) (i : Int) (out : List Rule) : Prop := ∃ j : Nat, j ≤ l.length ∧ i = j ∧ out = l.take j


end Go.Proofs.Ythbmllekbbfobaa.Sx
