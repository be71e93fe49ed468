import Derived.Test.YthbmllekbbfobaaProg
import Derived.Test.YthbmllekbbfobaaSxU
import Derived.IntWalk
import Derived.Test.YthbmllekbbfobaaI3
/-! tlv, Put -/
namespace Go.Proofs.Ythbmllekbbfobaa.Sx
open Go
set_option linter.unusedVariables false
set_option linter.unusedSimpArgs false
set_option maxRecDepth 100000

def badR (rec : List Elem → Bool) (last : Int) (e : Elem) : Prop := e.tag ≤ last ∨ 255 < e.tag ∨ (128 ≤ e.tag ∧ 0 < e.bytes.length) ∨ (e.tag < 128 ∧ 0 < e.elems.length) ∨ rec e.elems = false
instance (rec : List Elem → Bool) (last : Int) (e : Elem) : Decidable (badR rec last e) := by unfold badR; infer_instance
def rightGo (rec : List Elem → Bool) : Int → List Elem → Bool
  | _, [] => true
  | last, e :: l => if badR rec last e then false else rightGo rec e.tag l
def rightS : Nat → List Elem → Bool
  | 0, _ => true
  | d + 1, es => rightGo (rightS d) 0 es
def bodyE (rec : List Elem → List Int × Bool) (e : Elem) : List Int := if e.tag < 128 then e.bytes else (rec e.elems).1
def preL (b : List Int) (r : List Int × Bool) : List Int × Bool := if r.2 = true then (b ++ r.1, true) else ([], false)
def layGo (rec : List Elem → List Int × Bool) : List Elem → List Int × Bool
  | [] => ([], true)
  | e :: l => if (rec e.elems).2 = false ∨ 255 < (bodyE rec e).length then ([], false) else preL ([IntKind.u8.wrap e.tag, IntKind.u8.wrap (bodyE rec e).length] ++ bodyE rec e) (layGo rec l)
def layS : Nat → List Elem → List Int × Bool
  | 0, _ => ([], true)
  | d + 1, es => layGo (layS d) es
def recR : Nat → List Elem → Bool
  | 0 => fun _ => true
  | d + 1 => rightS d
def recL : Nat → List Elem → List Int × Bool
  | 0 => fun _ => ([], true)
  | d + 1 => layS d
theorem preL_pre (a b : List Int) (r : List Int × Bool) : preL a (preL b r) = preL (a ++ b) r := by
  unfold preL; split <;> simp [*]
def putTE (es : List Elem) : Int := if rightS 2 es = false then 2 else if (layS 2 es).2 = false then 11 else 0
def putT (es : List Elem) : List Int := if putTE es = 0 then (layS 2 es).1 else []
def IDp (es : List Elem) (i : Int) : Prop := ∃ j : Nat, j ≤ es.length ∧ i = j
def IRt (d : Nat) (es : List Elem) (i last : Int) : Prop := ∃ (j : Nat) (l : Int), l = last ∧ j ≤ es.length ∧ i = j ∧ rightGo (recR d) l (es.drop j) = rightGo (recR d) 0 es
def ILy (d : Nat) (es : List Elem) (i : Int) (b : List Int) : Prop := ∃ (j : Nat) (c : List Int), c = b ∧ j ≤ es.length ∧ i = j ∧ c.length ≤ 257 * j ∧ preL c (layGo (recL d) (es.drop j)) = layGo (recL d) es
theorem hE_len {d : Nat} {es : List Elem} (h : lE d es) : es.length ≤ 1048576 := by cases d with | zero => exact h | succ d => exact h.1
theorem lay_norm {rec : List Elem → List Int × Bool} : ∀ es, (layGo rec es).2 = false → layGo rec es = ([], false)
  | [], h => by cases h
  | e :: l, h => by
    rw [layGo] at h ⊢
    split
    · rfl
    · rename_i hn
      rw [if_neg hn] at h
      unfold preL at h ⊢
      split
      · rename_i h2; rw [if_pos h2] at h; cases h
      · rfl
theorem lay_preL {rec : List Elem → List Int × Bool} (es : List Elem) : preL [] (layGo rec es) = layGo rec es := by
  have := lay_norm (rec := rec) es
  generalize layGo rec es = r at *
  obtain ⟨a, b⟩ := r
  cases b with
  | true => rfl
  | false => rw [this rfl]; rfl


end Go.Proofs.Ythbmllekbbfobaa.Sx
