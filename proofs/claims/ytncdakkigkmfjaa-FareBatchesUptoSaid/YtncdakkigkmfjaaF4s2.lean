import Derived.Test.YtncdakkigkmfjaaProg
import Derived.Test.YtncdakkigkmfjaaSxU
import Derived.IntWalk
import Derived.Test.YtncdakkigkmfjaaF4s1
/-! fare, its laws -/
namespace Go.Proofs.Ytncdakkigkmfjaa.Sx
open Go
set_option linter.unusedVariables false
set_option linter.unusedSimpArgs false
set_option maxRecDepth 100000


def rideJ : Journey := ⟨1, 1, 7, 2, 9, 1, 1, 4, 250, 3⟩
def rideB : Batch := ⟨1, 1, [rideJ]⟩
theorem ride3 : getB (putBB ⟨1, 1, [rideJ]⟩) = ⟨1, 1, [rideJ]⟩ := by kernel_rfl
theorem ride4 : (putBB ⟨1, 1, [rideJ]⟩).length = 25 := by kernel_rfl
theorem bytesF_isB (fs : List FieldT) : isB (bytesF fs) := by
  intro x hx
  obtain ⟨f, _, hx⟩ := List.mem_flatMap.1 hx
  exact be_isB _ _ x hx
theorem form_isB (js : List Journey) : isB (form js) := by
  intro x hx
  obtain ⟨f, _, hx⟩ := List.mem_flatMap.1 hx
  exact bytesF_isB _ x hx
theorem isB_nil : isB [] := fun x hx => by simp at hx
theorem putBB_isB (x : Batch) : isB (putBB x) := by
  unfold putBB
  split
  · exact (((be_isB _ _).append (be_isB _ _)).append (be_isB _ _)).append (form_isB _)
  · exact isB_nil
theorem putJ_isB (js : List Journey) : isB (putJ js) := by
  unfold putJ
  split
  · exact form_isB _
  · exact isB_nil


end Go.Proofs.Ytncdakkigkmfjaa.Sx
