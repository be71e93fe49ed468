import Derived.Test.YthbmllekbbfobaaProg
import Derived.Test.YthbmllekbbfobaaSxU
import Derived.IntWalk
import Derived.Test.YthbmllekbbfobaaR3
/-! rules, forms -/
namespace Go.Proofs.Ythbmllekbbfobaa.Sx
open Go
set_option linter.unusedVariables false
set_option linter.unusedSimpArgs false
set_option maxRecDepth 100000

def headR (o p : Int) (ws : List Int) : List Int := be 1 o ++ (be 1 p ++ be 1 ws.length)
def formR (r : Rule) : List Int := headR r.owner r.op r.weights ++ r.weights.flatMap (be 2)
def formE (r : Rule) : Int := if rightR r 4 then 0 else 2
def formB (r : Rule) : List Int := if rightR r 4 then formR r else []
def IFm (o p : Int) (ws : List Int) (i : Int) (xs : List Int) (n : Int) : Prop := ∃ j : Nat, j ≤ ws.length ∧ i = j ∧ headR o p ws ++ (ws.take j).flatMap (be 2) = xs ∧ n = 8 * xs.length
theorem flat2_len : ∀ l : List Int, (l.flatMap (be 2)).length = 2 * l.length
  | [] => rfl
  | x :: l => by rw [List.flatMap_cons, List.length_append, be_length, flat2_len l, List.length_cons]; omega
theorem head_len (o p : Int) (ws : List Int) : (headR o p ws).length = 3 := by simp only [headR, List.length_append, be_length]
theorem head_put {r : Rule} (h : rightR r 4 = true) : putB [] [⟨8, r.owner⟩, ⟨8, r.op⟩, ⟨8, r.weights.length⟩] = headR r.owner r.op r.weights := by
  have h1 := (rightR_iff.1 h).1
  have e : [(⟨8, r.owner⟩ : FieldT), ⟨8, r.op⟩, ⟨8, r.weights.length⟩].all rightF = true := by
    simp only [List.all_cons, List.all_nil, rightF, Bool.and_eq_true, decide_eq_true_eq, Bool.and_true]
    refine ⟨⟨⟨⟨?_, ?_⟩, ?_⟩, ?_⟩, ⟨⟨⟨?_, ?_⟩, ?_⟩, ?_⟩, ⟨⟨?_, ?_⟩, ?_⟩, ?_⟩ <;> first | decide | omega | (show _ < (256 : Int); omega)
  rw [putB, if_pos e]
  simp [bytesF, headR]
theorem one_put {b : List Int} {n : Int} (h : 0 ≤ n ∧ n ≤ 1000) : putB b [⟨16, n⟩] = b ++ be 2 n := by
  have e : [(⟨16, n⟩ : FieldT)].all rightF = true := by
    simp only [List.all_cons, List.all_nil, rightF, Bool.and_eq_true, decide_eq_true_eq, Bool.and_true]
    refine ⟨⟨⟨?_, ?_⟩, ?_⟩, ?_⟩ <;> first | decide | omega | (show _ < (65536 : Int); omega)
  rw [putB, if_pos e]
  simp [bytesF]
theorem okset_nil {ops : Int} (h : 1 ≤ ops ∧ ops ≤ 4) : OkSet ops [] := ⟨List.Pairwise.nil, fun r hr => by simp at hr, h⟩
theorem okset_puts {ops : Int} {xs rs : List Rule} (h : OkSet ops xs) : OkSet ops (putRs ops xs rs) := by
  unfold putRs
  split
  · rename_i ha; exact puts_ok h (List.all_eq_true.1 ha)
  · exact h


end Go.Proofs.Ythbmllekbbfobaa.Sx
