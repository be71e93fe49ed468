/-
  No cell of these rows narrows 'for every input' (looked for: loops, veiled, ifaces, maps, wideKeys, modest, calm, conditions, laid).
  DERIVED. THE GIVEN ROWS OF THIS SEAT. 12 by the template 'for every input the law returns true; each argument reads behind the call as it read before'; 0 by the template 'total and deterministic' (their statements: YtgajbggdamlhlaaTotals.lean).
  GIVEN WITH THE SEED: the statements are not yours to turn. If you find one false, say at which input.
  Laid BY PROGRAM, IN A SANDBOX (cutbox-rows.mjs): the forced cells as the released guide's own fill.sh prints them over the translation f19ba9028604ebf2… (all of the seat's roots in one cut). By AI agents, Wed Nov 11 2026. No macro, syntax, notation, axiom, sorry.
-/
import Derived.Test.YtgajbggdamlhlaaChecked
import GoSem.Claim
import GoSem.ClaimJoined
import GoSem.ClaimMapViews
import Derived.JoinedTies
import Derived.KernelRfl
namespace Go.Proofs.Ytgajbggdamlhlaa
/- THE CELL 'sum', in the pinned program and in every row, IS THE sha256 OF THE DUMP (.gsa) THAT YtgajbggdamlhlaaProg.lean LOADS. Nothing in Lean hashes anything: it is a label: what it is worth is what the hold of that sum in a sandbox is worth. -/
noncomputable def Try.pinned : Pinned := { name := "ytgajbggdamlhlaa", sum := "f19ba9028604ebf291570d3e235b1ff0eac17ca7e3edd1a0989c8c00b4b4b5d0", checked := Try.checked }
namespace Rows
def none {H : Type} : Left H := { results := [], args := [] }

/-- 'fareboxlaw05.MoneyExact': WHATEVER THE INPUT: true; the input reads as it did. -/
def moneyExactSpec : ChangeSpec := { name := "moneyExact", fn := fun _ => fun
  | [d1, d2] => { results := [.lit (.bool true)], args := [d1, d2] }
  | _ => none }
def moneyExactRow : OpenClaim := { program := "ytgajbggdamlhlaa", sum := "f19ba9028604ebf291570d3e235b1ff0eac17ca7e3edd1a0989c8c00b4b4b5d0", func := "farebox/fareboxlaw05.MoneyExact", spec := "moneyExact", unfollowed := true, recurses := true, apart := false }
def MoneyExactSaid : Prop := moneyExactRow.holds Try.pinned (OpenSpec.ofChange moneyExactSpec)

/-- ITS FALSE NEIGHBOUR: 'it returns false'. Refute it at one input. -/
def moneyExactWrong : ChangeSpec := { name := "moneyExact", fn := fun _ => fun
  | [d1, d2] => { results := [.lit (.bool false)], args := [d1, d2] }
  | _ => none }
def MoneyExactWrongFalsely : Prop := moneyExactRow.holds Try.pinned (OpenSpec.ofChange moneyExactWrong)

/-- 'fareboxlaw05.MoneyScales': WHATEVER THE INPUT: true; the input reads as it did. -/
def moneyScalesSpec : ChangeSpec := { name := "moneyScales", fn := fun _ => fun
  | [d1, d2, d3] => { results := [.lit (.bool true)], args := [d1, d2, d3] }
  | _ => none }
def moneyScalesRow : OpenClaim := { program := "ytgajbggdamlhlaa", sum := "f19ba9028604ebf291570d3e235b1ff0eac17ca7e3edd1a0989c8c00b4b4b5d0", func := "farebox/fareboxlaw05.MoneyScales", spec := "moneyScales", unfollowed := true, recurses := true, apart := false }
def MoneyScalesSaid : Prop := moneyScalesRow.holds Try.pinned (OpenSpec.ofChange moneyScalesSpec)

/-- ITS FALSE NEIGHBOUR: 'it returns false'. Refute it at one input. -/
def moneyScalesWrong : ChangeSpec := { name := "moneyScales", fn := fun _ => fun
  | [d1, d2, d3] => { results := [.lit (.bool false)], args := [d1, d2, d3] }
  | _ => none }
def MoneyScalesWrongFalsely : Prop := moneyScalesRow.holds Try.pinned (OpenSpec.ofChange moneyScalesWrong)

/-- 'fareboxlaw05.MoneyTurned': WHATEVER THE INPUT: true; the input reads as it did. -/
def moneyTurnedSpec : ChangeSpec := { name := "moneyTurned", fn := fun _ => fun
  | [d1, d2] => { results := [.lit (.bool true)], args := [d1, d2] }
  | _ => none }
def moneyTurnedRow : OpenClaim := { program := "ytgajbggdamlhlaa", sum := "f19ba9028604ebf291570d3e235b1ff0eac17ca7e3edd1a0989c8c00b4b4b5d0", func := "farebox/fareboxlaw05.MoneyTurned", spec := "moneyTurned", unfollowed := true, recurses := true, apart := false }
def MoneyTurnedSaid : Prop := moneyTurnedRow.holds Try.pinned (OpenSpec.ofChange moneyTurnedSpec)

/-- ITS FALSE NEIGHBOUR: 'it returns false'. Refute it at one input. -/
def moneyTurnedWrong : ChangeSpec := { name := "moneyTurned", fn := fun _ => fun
  | [d1, d2] => { results := [.lit (.bool false)], args := [d1, d2] }
  | _ => none }
def MoneyTurnedWrongFalsely : Prop := moneyTurnedRow.holds Try.pinned (OpenSpec.ofChange moneyTurnedWrong)

/-- 'fareboxlaw05.MoneyMore': WHATEVER THE INPUT: true; the input reads as it did. -/
def moneyMoreSpec : ChangeSpec := { name := "moneyMore", fn := fun _ => fun
  | [d1, d2, d3] => { results := [.lit (.bool true)], args := [d1, d2, d3] }
  | _ => none }
def moneyMoreRow : OpenClaim := { program := "ytgajbggdamlhlaa", sum := "f19ba9028604ebf291570d3e235b1ff0eac17ca7e3edd1a0989c8c00b4b4b5d0", func := "farebox/fareboxlaw05.MoneyMore", spec := "moneyMore", unfollowed := true, recurses := true, apart := false }
def MoneyMoreSaid : Prop := moneyMoreRow.holds Try.pinned (OpenSpec.ofChange moneyMoreSpec)

/-- ITS FALSE NEIGHBOUR: 'it returns false'. Refute it at one input. -/
def moneyMoreWrong : ChangeSpec := { name := "moneyMore", fn := fun _ => fun
  | [d1, d2, d3] => { results := [.lit (.bool false)], args := [d1, d2, d3] }
  | _ => none }
def MoneyMoreWrongFalsely : Prop := moneyMoreRow.holds Try.pinned (OpenSpec.ofChange moneyMoreWrong)

/-- 'fareboxlaw05.MoneySums': WHATEVER THE INPUT: true; the input reads as it did. -/
def moneySumsSpec : ChangeSpec := { name := "moneySums", fn := fun _ => fun
  | [d] => { results := [.lit (.bool true)], args := [d] }
  | _ => none }
def moneySumsRow : OpenClaim := { program := "ytgajbggdamlhlaa", sum := "f19ba9028604ebf291570d3e235b1ff0eac17ca7e3edd1a0989c8c00b4b4b5d0", func := "farebox/fareboxlaw05.MoneySums", spec := "moneySums", unfollowed := true, recurses := true, apart := false }
def MoneySumsSaid : Prop := moneySumsRow.holds Try.pinned (OpenSpec.ofChange moneySumsSpec)

/-- ITS FALSE NEIGHBOUR: 'it returns false'. Refute it at one input. -/
def moneySumsWrong : ChangeSpec := { name := "moneySums", fn := fun _ => fun
  | [d] => { results := [.lit (.bool false)], args := [d] }
  | _ => none }
def MoneySumsWrongFalsely : Prop := moneySumsRow.holds Try.pinned (OpenSpec.ofChange moneySumsWrong)

/-- 'fareboxlaw10.IpeApart': WHATEVER THE INPUT: true; the input reads as it did. -/
def ipeApartSpec : ChangeSpec := { name := "ipeApart", fn := fun _ => fun
  | [d1, d2] => { results := [.lit (.bool true)], args := [d1, d2] }
  | _ => none }
def ipeApartRow : OpenClaim := { program := "ytgajbggdamlhlaa", sum := "f19ba9028604ebf291570d3e235b1ff0eac17ca7e3edd1a0989c8c00b4b4b5d0", func := "farebox/fareboxlaw10.IpeApart", spec := "ipeApart", unfollowed := true, recurses := true, apart := false }
def IpeApartSaid : Prop := ipeApartRow.holds Try.pinned (OpenSpec.ofChange ipeApartSpec)

/-- ITS FALSE NEIGHBOUR: 'it returns false'. Refute it at one input. -/
def ipeApartWrong : ChangeSpec := { name := "ipeApart", fn := fun _ => fun
  | [d1, d2] => { results := [.lit (.bool false)], args := [d1, d2] }
  | _ => none }
def IpeApartWrongFalsely : Prop := ipeApartRow.holds Try.pinned (OpenSpec.ofChange ipeApartWrong)

/-- 'fareboxlaw10.IpeValue': WHATEVER THE INPUT: true; the input reads as it did. -/
def ipeValueSpec : ChangeSpec := { name := "ipeValue", fn := fun _ => fun
  | [d1, d2] => { results := [.lit (.bool true)], args := [d1, d2] }
  | _ => none }
def ipeValueRow : OpenClaim := { program := "ytgajbggdamlhlaa", sum := "f19ba9028604ebf291570d3e235b1ff0eac17ca7e3edd1a0989c8c00b4b4b5d0", func := "farebox/fareboxlaw10.IpeValue", spec := "ipeValue", unfollowed := true, recurses := true, apart := false }
def IpeValueSaid : Prop := ipeValueRow.holds Try.pinned (OpenSpec.ofChange ipeValueSpec)

/-- ITS FALSE NEIGHBOUR: 'it returns false'. Refute it at one input. -/
def ipeValueWrong : ChangeSpec := { name := "ipeValue", fn := fun _ => fun
  | [d1, d2] => { results := [.lit (.bool false)], args := [d1, d2] }
  | _ => none }
def IpeValueWrongFalsely : Prop := ipeValueRow.holds Try.pinned (OpenSpec.ofChange ipeValueWrong)

/-- 'fareboxlaw10.IpeCounts': WHATEVER THE INPUT: true; the input reads as it did. -/
def ipeCountsSpec : ChangeSpec := { name := "ipeCounts", fn := fun _ => fun
  | [d1, d2] => { results := [.lit (.bool true)], args := [d1, d2] }
  | _ => none }
def ipeCountsRow : OpenClaim := { program := "ytgajbggdamlhlaa", sum := "f19ba9028604ebf291570d3e235b1ff0eac17ca7e3edd1a0989c8c00b4b4b5d0", func := "farebox/fareboxlaw10.IpeCounts", spec := "ipeCounts", unfollowed := true, recurses := true, apart := false }
def IpeCountsSaid : Prop := ipeCountsRow.holds Try.pinned (OpenSpec.ofChange ipeCountsSpec)

/-- ITS FALSE NEIGHBOUR: 'it returns false'. Refute it at one input. -/
def ipeCountsWrong : ChangeSpec := { name := "ipeCounts", fn := fun _ => fun
  | [d1, d2] => { results := [.lit (.bool false)], args := [d1, d2] }
  | _ => none }
def IpeCountsWrongFalsely : Prop := ipeCountsRow.holds Try.pinned (OpenSpec.ofChange ipeCountsWrong)

/-- 'fareboxlaw10.IpeDoes': WHATEVER THE INPUT: true; the input reads as it did. -/
def ipeDoesSpec : ChangeSpec := { name := "ipeDoes", fn := fun _ => fun
  | [d1, d2] => { results := [.lit (.bool true)], args := [d1, d2] }
  | _ => none }
def ipeDoesRow : OpenClaim := { program := "ytgajbggdamlhlaa", sum := "f19ba9028604ebf291570d3e235b1ff0eac17ca7e3edd1a0989c8c00b4b4b5d0", func := "farebox/fareboxlaw10.IpeDoes", spec := "ipeDoes", unfollowed := true, recurses := true, apart := false }
def IpeDoesSaid : Prop := ipeDoesRow.holds Try.pinned (OpenSpec.ofChange ipeDoesSpec)

/-- ITS FALSE NEIGHBOUR: 'it returns false'. Refute it at one input. -/
def ipeDoesWrong : ChangeSpec := { name := "ipeDoes", fn := fun _ => fun
  | [d1, d2] => { results := [.lit (.bool false)], args := [d1, d2] }
  | _ => none }
def IpeDoesWrongFalsely : Prop := ipeDoesRow.holds Try.pinned (OpenSpec.ofChange ipeDoesWrong)

/-- 'fareboxlaw17.BatchPlays': WHATEVER THE INPUT: true; the input reads as it did. -/
def batchPlaysSpec : ChangeSpec := { name := "batchPlays", fn := fun _ => fun
  | [d1, d2] => { results := [.lit (.bool true)], args := [d1, d2] }
  | _ => none }
def batchPlaysRow : OpenClaim := { program := "ytgajbggdamlhlaa", sum := "f19ba9028604ebf291570d3e235b1ff0eac17ca7e3edd1a0989c8c00b4b4b5d0", func := "farebox/fareboxlaw17.BatchPlays", spec := "batchPlays", unfollowed := true, recurses := true, apart := false }
def BatchPlaysSaid : Prop := batchPlaysRow.holds Try.pinned (OpenSpec.ofChange batchPlaysSpec)

/-- ITS FALSE NEIGHBOUR: 'it returns false'. Refute it at one input. -/
def batchPlaysWrong : ChangeSpec := { name := "batchPlays", fn := fun _ => fun
  | [d1, d2] => { results := [.lit (.bool false)], args := [d1, d2] }
  | _ => none }
def BatchPlaysWrongFalsely : Prop := batchPlaysRow.holds Try.pinned (OpenSpec.ofChange batchPlaysWrong)

/-- 'fareboxlaw17.BatchLoads': WHATEVER THE INPUT: true; the input reads as it did. -/
def batchLoadsSpec : ChangeSpec := { name := "batchLoads", fn := fun _ => fun
  | [d] => { results := [.lit (.bool true)], args := [d] }
  | _ => none }
def batchLoadsRow : OpenClaim := { program := "ytgajbggdamlhlaa", sum := "f19ba9028604ebf291570d3e235b1ff0eac17ca7e3edd1a0989c8c00b4b4b5d0", func := "farebox/fareboxlaw17.BatchLoads", spec := "batchLoads", unfollowed := true, recurses := true, apart := false }
def BatchLoadsSaid : Prop := batchLoadsRow.holds Try.pinned (OpenSpec.ofChange batchLoadsSpec)

/-- ITS FALSE NEIGHBOUR: 'it returns false'. Refute it at one input. -/
def batchLoadsWrong : ChangeSpec := { name := "batchLoads", fn := fun _ => fun
  | [d] => { results := [.lit (.bool false)], args := [d] }
  | _ => none }
def BatchLoadsWrongFalsely : Prop := batchLoadsRow.holds Try.pinned (OpenSpec.ofChange batchLoadsWrong)

/-- 'fareboxlaw10.IpeReads': WHATEVER THE INPUT: true; the input reads as it did. -/
def ipeReadsSpec : ChangeSpec := { name := "ipeReads", fn := fun _ => fun
  | [d1, d2] => { results := [.lit (.bool true)], args := [d1, d2] }
  | _ => none }
def ipeReadsRow : OpenClaim := { program := "ytgajbggdamlhlaa", sum := "f19ba9028604ebf291570d3e235b1ff0eac17ca7e3edd1a0989c8c00b4b4b5d0", func := "farebox/fareboxlaw10.IpeReads", spec := "ipeReads", unfollowed := true, recurses := true, apart := false }
def IpeReadsSaid : Prop := ipeReadsRow.holds Try.pinned (OpenSpec.ofChange ipeReadsSpec)

/-- ITS FALSE NEIGHBOUR: 'it returns false'. Refute it at one input. -/
def ipeReadsWrong : ChangeSpec := { name := "ipeReads", fn := fun _ => fun
  | [d1, d2] => { results := [.lit (.bool false)], args := [d1, d2] }
  | _ => none }
def IpeReadsWrongFalsely : Prop := ipeReadsRow.holds Try.pinned (OpenSpec.ofChange ipeReadsWrong)

/- THE SECOND FORM. 'bulk': how many values and letters a reading holds, each counted each time it is reached (what is shared counts as often as it is met; a slice's spare places count too). A statement '..UptoSaid' is the law's where the arguments, and the package variables that the reading takes, are together of bulk at most 1048576: NARROWER than '..Said'. Prove '..Said' where nothing that the law and all that it calls make is longer than what came in: it says more and counts as full. Else prove '..UptoSaid'. A law counts once. -/
mutual
def uptoBulk {H : Type} : DataW H → Nat
  | .lit (.string bytes) => bytes.length + 1
  | .lit _ => 1
  | .nil => 1
  | .ptr d => uptoBulk d + 1
  | .slice elems spare => uptoBulkAll elems + uptoBulkAll spare + 1
  | .agg parts => uptoBulkAll parts + 1
  | .iface _ d => uptoBulk d + 1
  | .map entries => uptoBulkEntries entries + 1
  | .held _ => 1
def uptoBulkAll {H : Type} : List (DataW H) → Nat
  | [] => 0
  | d :: r => uptoBulk d + uptoBulkAll r
def uptoBulkEntries {H : Type} : List (Lit × DataW H) → Nat
  | [] => 0
  | x :: r => uptoBulkEntry x + uptoBulkEntries r
def uptoBulkEntry {H : Type} : Lit × DataW H → Nat
  | (.string bytes, d) => bytes.length + uptoBulk d + 1
  | (_, d) => uptoBulk d + 1
 end
def uptoSmall : (H : Type) → List (DataW H) → Bool := fun _ ds => decide (uptoBulkAll ds ≤ 1048576)
def OpenSpec.upto (s : _root_.Go.ChangeSpec) : _root_.Go.OpenSpec := { _root_.Go.OpenSpec.ofChange s with cond := some uptoSmall }

/-- 'fareboxlaw05.MoneyExact', WHERE WHAT IT READS IS OF BULK AT MOST 1048576: true; the input reads as it did. -/
def moneyExactUptoRow : OpenClaim := { program := "ytgajbggdamlhlaa", sum := "f19ba9028604ebf291570d3e235b1ff0eac17ca7e3edd1a0989c8c00b4b4b5d0", func := "farebox/fareboxlaw05.MoneyExact", spec := "moneyExact", unfollowed := true, recurses := true, apart := false, narrowed := true }
def MoneyExactUptoSaid : Prop := moneyExactUptoRow.holds Try.pinned (OpenSpec.upto moneyExactSpec)

/-- 'fareboxlaw05.MoneyScales', WHERE WHAT IT READS IS OF BULK AT MOST 1048576: true; the input reads as it did. -/
def moneyScalesUptoRow : OpenClaim := { program := "ytgajbggdamlhlaa", sum := "f19ba9028604ebf291570d3e235b1ff0eac17ca7e3edd1a0989c8c00b4b4b5d0", func := "farebox/fareboxlaw05.MoneyScales", spec := "moneyScales", unfollowed := true, recurses := true, apart := false, narrowed := true }
def MoneyScalesUptoSaid : Prop := moneyScalesUptoRow.holds Try.pinned (OpenSpec.upto moneyScalesSpec)

/-- 'fareboxlaw05.MoneyTurned', WHERE WHAT IT READS IS OF BULK AT MOST 1048576: true; the input reads as it did. -/
def moneyTurnedUptoRow : OpenClaim := { program := "ytgajbggdamlhlaa", sum := "f19ba9028604ebf291570d3e235b1ff0eac17ca7e3edd1a0989c8c00b4b4b5d0", func := "farebox/fareboxlaw05.MoneyTurned", spec := "moneyTurned", unfollowed := true, recurses := true, apart := false, narrowed := true }
def MoneyTurnedUptoSaid : Prop := moneyTurnedUptoRow.holds Try.pinned (OpenSpec.upto moneyTurnedSpec)

/-- 'fareboxlaw05.MoneyMore', WHERE WHAT IT READS IS OF BULK AT MOST 1048576: true; the input reads as it did. -/
def moneyMoreUptoRow : OpenClaim := { program := "ytgajbggdamlhlaa", sum := "f19ba9028604ebf291570d3e235b1ff0eac17ca7e3edd1a0989c8c00b4b4b5d0", func := "farebox/fareboxlaw05.MoneyMore", spec := "moneyMore", unfollowed := true, recurses := true, apart := false, narrowed := true }
def MoneyMoreUptoSaid : Prop := moneyMoreUptoRow.holds Try.pinned (OpenSpec.upto moneyMoreSpec)

/-- 'fareboxlaw05.MoneySums', WHERE WHAT IT READS IS OF BULK AT MOST 1048576: true; the input reads as it did. -/
def moneySumsUptoRow : OpenClaim := { program := "ytgajbggdamlhlaa", sum := "f19ba9028604ebf291570d3e235b1ff0eac17ca7e3edd1a0989c8c00b4b4b5d0", func := "farebox/fareboxlaw05.MoneySums", spec := "moneySums", unfollowed := true, recurses := true, apart := false, narrowed := true }
def MoneySumsUptoSaid : Prop := moneySumsUptoRow.holds Try.pinned (OpenSpec.upto moneySumsSpec)

/-- 'fareboxlaw10.IpeApart', WHERE WHAT IT READS IS OF BULK AT MOST 1048576: true; the input reads as it did. -/
def ipeApartUptoRow : OpenClaim := { program := "ytgajbggdamlhlaa", sum := "f19ba9028604ebf291570d3e235b1ff0eac17ca7e3edd1a0989c8c00b4b4b5d0", func := "farebox/fareboxlaw10.IpeApart", spec := "ipeApart", unfollowed := true, recurses := true, apart := false, narrowed := true }
def IpeApartUptoSaid : Prop := ipeApartUptoRow.holds Try.pinned (OpenSpec.upto ipeApartSpec)

/-- 'fareboxlaw10.IpeValue', WHERE WHAT IT READS IS OF BULK AT MOST 1048576: true; the input reads as it did. -/
def ipeValueUptoRow : OpenClaim := { program := "ytgajbggdamlhlaa", sum := "f19ba9028604ebf291570d3e235b1ff0eac17ca7e3edd1a0989c8c00b4b4b5d0", func := "farebox/fareboxlaw10.IpeValue", spec := "ipeValue", unfollowed := true, recurses := true, apart := false, narrowed := true }
def IpeValueUptoSaid : Prop := ipeValueUptoRow.holds Try.pinned (OpenSpec.upto ipeValueSpec)

/-- 'fareboxlaw10.IpeCounts', WHERE WHAT IT READS IS OF BULK AT MOST 1048576: true; the input reads as it did. -/
def ipeCountsUptoRow : OpenClaim := { program := "ytgajbggdamlhlaa", sum := "f19ba9028604ebf291570d3e235b1ff0eac17ca7e3edd1a0989c8c00b4b4b5d0", func := "farebox/fareboxlaw10.IpeCounts", spec := "ipeCounts", unfollowed := true, recurses := true, apart := false, narrowed := true }
def IpeCountsUptoSaid : Prop := ipeCountsUptoRow.holds Try.pinned (OpenSpec.upto ipeCountsSpec)

/-- 'fareboxlaw10.IpeDoes', WHERE WHAT IT READS IS OF BULK AT MOST 1048576: true; the input reads as it did. -/
def ipeDoesUptoRow : OpenClaim := { program := "ytgajbggdamlhlaa", sum := "f19ba9028604ebf291570d3e235b1ff0eac17ca7e3edd1a0989c8c00b4b4b5d0", func := "farebox/fareboxlaw10.IpeDoes", spec := "ipeDoes", unfollowed := true, recurses := true, apart := false, narrowed := true }
def IpeDoesUptoSaid : Prop := ipeDoesUptoRow.holds Try.pinned (OpenSpec.upto ipeDoesSpec)

/-- 'fareboxlaw17.BatchPlays', WHERE WHAT IT READS IS OF BULK AT MOST 1048576: true; the input reads as it did. -/
def batchPlaysUptoRow : OpenClaim := { program := "ytgajbggdamlhlaa", sum := "f19ba9028604ebf291570d3e235b1ff0eac17ca7e3edd1a0989c8c00b4b4b5d0", func := "farebox/fareboxlaw17.BatchPlays", spec := "batchPlays", unfollowed := true, recurses := true, apart := false, narrowed := true }
def BatchPlaysUptoSaid : Prop := batchPlaysUptoRow.holds Try.pinned (OpenSpec.upto batchPlaysSpec)

/-- 'fareboxlaw17.BatchLoads', WHERE WHAT IT READS IS OF BULK AT MOST 1048576: true; the input reads as it did. -/
def batchLoadsUptoRow : OpenClaim := { program := "ytgajbggdamlhlaa", sum := "f19ba9028604ebf291570d3e235b1ff0eac17ca7e3edd1a0989c8c00b4b4b5d0", func := "farebox/fareboxlaw17.BatchLoads", spec := "batchLoads", unfollowed := true, recurses := true, apart := false, narrowed := true }
def BatchLoadsUptoSaid : Prop := batchLoadsUptoRow.holds Try.pinned (OpenSpec.upto batchLoadsSpec)

/-- 'fareboxlaw10.IpeReads', WHERE WHAT IT READS IS OF BULK AT MOST 1048576: true; the input reads as it did. -/
def ipeReadsUptoRow : OpenClaim := { program := "ytgajbggdamlhlaa", sum := "f19ba9028604ebf291570d3e235b1ff0eac17ca7e3edd1a0989c8c00b4b4b5d0", func := "farebox/fareboxlaw10.IpeReads", spec := "ipeReads", unfollowed := true, recurses := true, apart := false, narrowed := true }
def IpeReadsUptoSaid : Prop := ipeReadsUptoRow.holds Try.pinned (OpenSpec.upto ipeReadsSpec)

end Rows
end Go.Proofs.Ytgajbggdamlhlaa
