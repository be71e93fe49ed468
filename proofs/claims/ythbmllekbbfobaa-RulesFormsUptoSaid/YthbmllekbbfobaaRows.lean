/-
  No cell of these rows narrows 'for every input' (looked for: loops, veiled, ifaces, maps, wideKeys, modest, calm, conditions, laid).
  DERIVED. THE GIVEN ROWS OF THIS SEAT. 11 by the template 'for every input the law returns true; each argument reads behind the call as it read before'; 0 by the template 'total and deterministic' (their statements: YthbmllekbbfobaaTotals.lean).
  GIVEN WITH THE SEED: the statements are not yours to turn. If you find one false, say at which input.
  Laid BY PROGRAM, IN A SANDBOX (cutbox-rows.mjs): the forced cells as the released guide's own fill.sh prints them over the translation fba5c2a87ed435bd… (all of the seat's roots in one cut). By AI agents, Wed Nov 11 2026. No macro, syntax, notation, axiom, sorry.
-/
import Derived.Test.YthbmllekbbfobaaChecked
import GoSem.Claim
import GoSem.ClaimJoined
import GoSem.ClaimMapViews
import Derived.JoinedTies
import Derived.KernelRfl
namespace Go.Proofs.Ythbmllekbbfobaa
/- THE CELL 'sum', in the pinned program and in every row, IS THE sha256 OF THE DUMP (.gsa) THAT YthbmllekbbfobaaProg.lean LOADS. Nothing in Lean hashes anything: it is a label: what it is worth is what the hold of that sum in a sandbox is worth. -/
noncomputable def Try.pinned : Pinned := { name := "ythbmllekbbfobaa", sum := "fba5c2a87ed435bd2953a100d4056a36e8680c4fb85f2f96b9c87049d72104d7", checked := Try.checked }
namespace Rows
def none {H : Type} : Left H := { results := [], args := [] }

/-- 'fareboxlaw12.ListsForms': WHATEVER THE INPUT: true; the input reads as it did. -/
def listsFormsSpec : ChangeSpec := { name := "listsForms", fn := fun _ => fun
  | [d1, d2] => { results := [.lit (.bool true)], args := [d1, d2] }
  | _ => none }
def listsFormsRow : OpenClaim := { program := "ythbmllekbbfobaa", sum := "fba5c2a87ed435bd2953a100d4056a36e8680c4fb85f2f96b9c87049d72104d7", func := "farebox/fareboxlaw12.ListsForms", spec := "listsForms", unfollowed := true, recurses := true, apart := false }
def ListsFormsSaid : Prop := listsFormsRow.holds Try.pinned (OpenSpec.ofChange listsFormsSpec)

/-- ITS FALSE NEIGHBOUR: 'it returns false'. Refute it at one input. -/
def listsFormsWrong : ChangeSpec := { name := "listsForms", fn := fun _ => fun
  | [d1, d2] => { results := [.lit (.bool false)], args := [d1, d2] }
  | _ => none }
def ListsFormsWrongFalsely : Prop := listsFormsRow.holds Try.pinned (OpenSpec.ofChange listsFormsWrong)

/-- 'fareboxlaw12.ListsAgain': WHATEVER THE INPUT: true; the input reads as it did. -/
def listsAgainSpec : ChangeSpec := { name := "listsAgain", fn := fun _ => fun
  | [d1, d2] => { results := [.lit (.bool true)], args := [d1, d2] }
  | _ => none }
def listsAgainRow : OpenClaim := { program := "ythbmllekbbfobaa", sum := "fba5c2a87ed435bd2953a100d4056a36e8680c4fb85f2f96b9c87049d72104d7", func := "farebox/fareboxlaw12.ListsAgain", spec := "listsAgain", unfollowed := true, recurses := true, apart := false }
def ListsAgainSaid : Prop := listsAgainRow.holds Try.pinned (OpenSpec.ofChange listsAgainSpec)

/-- ITS FALSE NEIGHBOUR: 'it returns false'. Refute it at one input. -/
def listsAgainWrong : ChangeSpec := { name := "listsAgain", fn := fun _ => fun
  | [d1, d2] => { results := [.lit (.bool false)], args := [d1, d2] }
  | _ => none }
def ListsAgainWrongFalsely : Prop := listsAgainRow.holds Try.pinned (OpenSpec.ofChange listsAgainWrong)

/-- 'fareboxlaw12.ListsOff': WHATEVER THE INPUT: true; the input reads as it did. -/
def listsOffSpec : ChangeSpec := { name := "listsOff", fn := fun _ => fun
  | [d1, d2] => { results := [.lit (.bool true)], args := [d1, d2] }
  | _ => none }
def listsOffRow : OpenClaim := { program := "ythbmllekbbfobaa", sum := "fba5c2a87ed435bd2953a100d4056a36e8680c4fb85f2f96b9c87049d72104d7", func := "farebox/fareboxlaw12.ListsOff", spec := "listsOff", unfollowed := true, recurses := true, apart := false }
def ListsOffSaid : Prop := listsOffRow.holds Try.pinned (OpenSpec.ofChange listsOffSpec)

/-- ITS FALSE NEIGHBOUR: 'it returns false'. Refute it at one input. -/
def listsOffWrong : ChangeSpec := { name := "listsOff", fn := fun _ => fun
  | [d1, d2] => { results := [.lit (.bool false)], args := [d1, d2] }
  | _ => none }
def ListsOffWrongFalsely : Prop := listsOffRow.holds Try.pinned (OpenSpec.ofChange listsOffWrong)

/-- 'fareboxlaw10.IpeForms': WHATEVER THE INPUT: true; the input reads as it did. -/
def ipeFormsSpec : ChangeSpec := { name := "ipeForms", fn := fun _ => fun
  | [d1, d2] => { results := [.lit (.bool true)], args := [d1, d2] }
  | _ => none }
def ipeFormsRow : OpenClaim := { program := "ythbmllekbbfobaa", sum := "fba5c2a87ed435bd2953a100d4056a36e8680c4fb85f2f96b9c87049d72104d7", func := "farebox/fareboxlaw10.IpeForms", spec := "ipeForms", unfollowed := true, recurses := true, apart := false }
def IpeFormsSaid : Prop := ipeFormsRow.holds Try.pinned (OpenSpec.ofChange ipeFormsSpec)

/-- ITS FALSE NEIGHBOUR: 'it returns false'. Refute it at one input. -/
def ipeFormsWrong : ChangeSpec := { name := "ipeForms", fn := fun _ => fun
  | [d1, d2] => { results := [.lit (.bool false)], args := [d1, d2] }
  | _ => none }
def IpeFormsWrongFalsely : Prop := ipeFormsRow.holds Try.pinned (OpenSpec.ofChange ipeFormsWrong)

/-- 'fareboxlaw10.IpeBack': WHATEVER THE INPUT: true; the input reads as it did. -/
def ipeBackSpec : ChangeSpec := { name := "ipeBack", fn := fun _ => fun
  | [d1, d2, d3] => { results := [.lit (.bool true)], args := [d1, d2, d3] }
  | _ => none }
def ipeBackRow : OpenClaim := { program := "ythbmllekbbfobaa", sum := "fba5c2a87ed435bd2953a100d4056a36e8680c4fb85f2f96b9c87049d72104d7", func := "farebox/fareboxlaw10.IpeBack", spec := "ipeBack", unfollowed := true, recurses := true, apart := false }
def IpeBackSaid : Prop := ipeBackRow.holds Try.pinned (OpenSpec.ofChange ipeBackSpec)

/-- ITS FALSE NEIGHBOUR: 'it returns false'. Refute it at one input. -/
def ipeBackWrong : ChangeSpec := { name := "ipeBack", fn := fun _ => fun
  | [d1, d2, d3] => { results := [.lit (.bool false)], args := [d1, d2, d3] }
  | _ => none }
def IpeBackWrongFalsely : Prop := ipeBackRow.holds Try.pinned (OpenSpec.ofChange ipeBackWrong)

/-- 'fareboxlaw12.ListsGrow': WHATEVER THE INPUT: true; the input reads as it did. -/
def listsGrowSpec : ChangeSpec := { name := "listsGrow", fn := fun _ => fun
  | [d1, d2] => { results := [.lit (.bool true)], args := [d1, d2] }
  | _ => none }
def listsGrowRow : OpenClaim := { program := "ythbmllekbbfobaa", sum := "fba5c2a87ed435bd2953a100d4056a36e8680c4fb85f2f96b9c87049d72104d7", func := "farebox/fareboxlaw12.ListsGrow", spec := "listsGrow", unfollowed := true, recurses := true, apart := false }
def ListsGrowSaid : Prop := listsGrowRow.holds Try.pinned (OpenSpec.ofChange listsGrowSpec)

/-- ITS FALSE NEIGHBOUR: 'it returns false'. Refute it at one input. -/
def listsGrowWrong : ChangeSpec := { name := "listsGrow", fn := fun _ => fun
  | [d1, d2] => { results := [.lit (.bool false)], args := [d1, d2] }
  | _ => none }
def ListsGrowWrongFalsely : Prop := listsGrowRow.holds Try.pinned (OpenSpec.ofChange listsGrowWrong)

/-- 'fareboxlaw12.ListsPlays': WHATEVER THE INPUT: true; the input reads as it did. -/
def listsPlaysSpec : ChangeSpec := { name := "listsPlays", fn := fun _ => fun
  | [d1, d2] => { results := [.lit (.bool true)], args := [d1, d2] }
  | _ => none }
def listsPlaysRow : OpenClaim := { program := "ythbmllekbbfobaa", sum := "fba5c2a87ed435bd2953a100d4056a36e8680c4fb85f2f96b9c87049d72104d7", func := "farebox/fareboxlaw12.ListsPlays", spec := "listsPlays", unfollowed := true, recurses := true, apart := false }
def ListsPlaysSaid : Prop := listsPlaysRow.holds Try.pinned (OpenSpec.ofChange listsPlaysSpec)

/-- ITS FALSE NEIGHBOUR: 'it returns false'. Refute it at one input. -/
def listsPlaysWrong : ChangeSpec := { name := "listsPlays", fn := fun _ => fun
  | [d1, d2] => { results := [.lit (.bool false)], args := [d1, d2] }
  | _ => none }
def ListsPlaysWrongFalsely : Prop := listsPlaysRow.holds Try.pinned (OpenSpec.ofChange listsPlaysWrong)

/-- 'fareboxlaw21.RulesShares': WHATEVER THE INPUT: true; the input reads as it did. -/
def rulesSharesSpec : ChangeSpec := { name := "rulesShares", fn := fun _ => fun
  | [d1, d2, d3] => { results := [.lit (.bool true)], args := [d1, d2, d3] }
  | _ => none }
def rulesSharesRow : OpenClaim := { program := "ythbmllekbbfobaa", sum := "fba5c2a87ed435bd2953a100d4056a36e8680c4fb85f2f96b9c87049d72104d7", func := "farebox/fareboxlaw21.RulesShares", spec := "rulesShares", inPlace := ["slices.overlaps[farebox/api.Rule]"], unfollowed := true, recurses := true, apart := false }
def RulesSharesSaid : Prop := rulesSharesRow.holds Try.pinned (OpenSpec.ofChange rulesSharesSpec)

/-- ITS FALSE NEIGHBOUR: 'it returns false'. Refute it at one input. -/
def rulesSharesWrong : ChangeSpec := { name := "rulesShares", fn := fun _ => fun
  | [d1, d2, d3] => { results := [.lit (.bool false)], args := [d1, d2, d3] }
  | _ => none }
def RulesSharesWrongFalsely : Prop := rulesSharesRow.holds Try.pinned (OpenSpec.ofChange rulesSharesWrong)

/-- 'fareboxlaw21.RulesPlay': WHATEVER THE INPUT: true; the input reads as it did. -/
def rulesPlaySpec : ChangeSpec := { name := "rulesPlay", fn := fun _ => fun
  | [d1, d2, d3] => { results := [.lit (.bool true)], args := [d1, d2, d3] }
  | _ => none }
def rulesPlayRow : OpenClaim := { program := "ythbmllekbbfobaa", sum := "fba5c2a87ed435bd2953a100d4056a36e8680c4fb85f2f96b9c87049d72104d7", func := "farebox/fareboxlaw21.RulesPlay", spec := "rulesPlay", inPlace := ["slices.overlaps[farebox/api.Rule]"], unfollowed := true, recurses := true, apart := false }
def RulesPlaySaid : Prop := rulesPlayRow.holds Try.pinned (OpenSpec.ofChange rulesPlaySpec)

/-- ITS FALSE NEIGHBOUR: 'it returns false'. Refute it at one input. -/
def rulesPlayWrong : ChangeSpec := { name := "rulesPlay", fn := fun _ => fun
  | [d1, d2, d3] => { results := [.lit (.bool false)], args := [d1, d2, d3] }
  | _ => none }
def RulesPlayWrongFalsely : Prop := rulesPlayRow.holds Try.pinned (OpenSpec.ofChange rulesPlayWrong)

/-- 'fareboxlaw21.RulesLast': WHATEVER THE INPUT: true; the input reads as it did. -/
def rulesLastSpec : ChangeSpec := { name := "rulesLast", fn := fun _ => fun
  | [d1, d2] => { results := [.lit (.bool true)], args := [d1, d2] }
  | _ => none }
def rulesLastRow : OpenClaim := { program := "ythbmllekbbfobaa", sum := "fba5c2a87ed435bd2953a100d4056a36e8680c4fb85f2f96b9c87049d72104d7", func := "farebox/fareboxlaw21.RulesLast", spec := "rulesLast", inPlace := ["slices.overlaps[farebox/api.Rule]"], unfollowed := true, recurses := true, apart := false }
def RulesLastSaid : Prop := rulesLastRow.holds Try.pinned (OpenSpec.ofChange rulesLastSpec)

/-- ITS FALSE NEIGHBOUR: 'it returns false'. Refute it at one input. -/
def rulesLastWrong : ChangeSpec := { name := "rulesLast", fn := fun _ => fun
  | [d1, d2] => { results := [.lit (.bool false)], args := [d1, d2] }
  | _ => none }
def RulesLastWrongFalsely : Prop := rulesLastRow.holds Try.pinned (OpenSpec.ofChange rulesLastWrong)

/-- 'fareboxlaw21.RulesForms': WHATEVER THE INPUT: true; the input reads as it did. -/
def rulesFormsSpec : ChangeSpec := { name := "rulesForms", fn := fun _ => fun
  | [d1, d2] => { results := [.lit (.bool true)], args := [d1, d2] }
  | _ => none }
def rulesFormsRow : OpenClaim := { program := "ythbmllekbbfobaa", sum := "fba5c2a87ed435bd2953a100d4056a36e8680c4fb85f2f96b9c87049d72104d7", func := "farebox/fareboxlaw21.RulesForms", spec := "rulesForms", inPlace := ["slices.overlaps[farebox/api.Rule]"], unfollowed := true, recurses := true, apart := false }
def RulesFormsSaid : Prop := rulesFormsRow.holds Try.pinned (OpenSpec.ofChange rulesFormsSpec)

/-- ITS FALSE NEIGHBOUR: 'it returns false'. Refute it at one input. -/
def rulesFormsWrong : ChangeSpec := { name := "rulesForms", fn := fun _ => fun
  | [d1, d2] => { results := [.lit (.bool false)], args := [d1, d2] }
  | _ => none }
def RulesFormsWrongFalsely : Prop := rulesFormsRow.holds Try.pinned (OpenSpec.ofChange rulesFormsWrong)

/- THE SECOND FORM. 'bulk': how many values and letters a reading holds, each counted each time it is reached (what is shared counts as often as it is met; a slice's spare places count too). A statement '..UptoSaid' is the law's where the arguments, and the package variables that the reading takes, are together of bulk at most 1048576: NARROWER than '..Said'. Prove '..Said' where nothing that the law and all that it calls make is longer than what came in: it says more and counts as full. Else prove '..UptoSaid'. A law counts once. -/
mutual
def uptoBulk {H : Type} : DataW H → Nat
  | .lit (.string bytes) => bytes.length + 1
  | .lit _ => 1
  | .nil => 1
  | .ptr d => uptoBulk d + 1
  | .slice elems spare => uptoBulkAll elems + uptoBulkAll spare + 1
  | .agg parts => uptoBulkAll parts + 1
  | .iface _ d => uptoBulk d + 1
  | .map entries => uptoBulkEntries entries + 1
  | .held _ => 1
def uptoBulkAll {H : Type} : List (DataW H) → Nat
  | [] => 0
  | d :: r => uptoBulk d + uptoBulkAll r
def uptoBulkEntries {H : Type} : List (Lit × DataW H) → Nat
  | [] => 0
  | x :: r => uptoBulkEntry x + uptoBulkEntries r
def uptoBulkEntry {H : Type} : Lit × DataW H → Nat
  | (.string bytes, d) => bytes.length + uptoBulk d + 1
  | (_, d) => uptoBulk d + 1
 end
def uptoSmall : (H : Type) → List (DataW H) → Bool := fun _ ds => decide (uptoBulkAll ds ≤ 1048576)
def OpenSpec.upto (s : _root_.Go.ChangeSpec) : _root_.Go.OpenSpec := { _root_.Go.OpenSpec.ofChange s with cond := some uptoSmall }

/-- 'fareboxlaw12.ListsForms', WHERE WHAT IT READS IS OF BULK AT MOST 1048576: true; the input reads as it did. -/
def listsFormsUptoRow : OpenClaim := { program := "ythbmllekbbfobaa", sum := "fba5c2a87ed435bd2953a100d4056a36e8680c4fb85f2f96b9c87049d72104d7", func := "farebox/fareboxlaw12.ListsForms", spec := "listsForms", unfollowed := true, recurses := true, apart := false, narrowed := true }
def ListsFormsUptoSaid : Prop := listsFormsUptoRow.holds Try.pinned (OpenSpec.upto listsFormsSpec)

/-- 'fareboxlaw12.ListsAgain', WHERE WHAT IT READS IS OF BULK AT MOST 1048576: true; the input reads as it did. -/
def listsAgainUptoRow : OpenClaim := { program := "ythbmllekbbfobaa", sum := "fba5c2a87ed435bd2953a100d4056a36e8680c4fb85f2f96b9c87049d72104d7", func := "farebox/fareboxlaw12.ListsAgain", spec := "listsAgain", unfollowed := true, recurses := true, apart := false, narrowed := true }
def ListsAgainUptoSaid : Prop := listsAgainUptoRow.holds Try.pinned (OpenSpec.upto listsAgainSpec)

/-- 'fareboxlaw12.ListsOff', WHERE WHAT IT READS IS OF BULK AT MOST 1048576: true; the input reads as it did. -/
def listsOffUptoRow : OpenClaim := { program := "ythbmllekbbfobaa", sum := "fba5c2a87ed435bd2953a100d4056a36e8680c4fb85f2f96b9c87049d72104d7", func := "farebox/fareboxlaw12.ListsOff", spec := "listsOff", unfollowed := true, recurses := true, apart := false, narrowed := true }
def ListsOffUptoSaid : Prop := listsOffUptoRow.holds Try.pinned (OpenSpec.upto listsOffSpec)

/-- 'fareboxlaw10.IpeForms', WHERE WHAT IT READS IS OF BULK AT MOST 1048576: true; the input reads as it did. -/
def ipeFormsUptoRow : OpenClaim := { program := "ythbmllekbbfobaa", sum := "fba5c2a87ed435bd2953a100d4056a36e8680c4fb85f2f96b9c87049d72104d7", func := "farebox/fareboxlaw10.IpeForms", spec := "ipeForms", unfollowed := true, recurses := true, apart := false, narrowed := true }
def IpeFormsUptoSaid : Prop := ipeFormsUptoRow.holds Try.pinned (OpenSpec.upto ipeFormsSpec)

/-- 'fareboxlaw10.IpeBack', WHERE WHAT IT READS IS OF BULK AT MOST 1048576: true; the input reads as it did. -/
def ipeBackUptoRow : OpenClaim := { program := "ythbmllekbbfobaa", sum := "fba5c2a87ed435bd2953a100d4056a36e8680c4fb85f2f96b9c87049d72104d7", func := "farebox/fareboxlaw10.IpeBack", spec := "ipeBack", unfollowed := true, recurses := true, apart := false, narrowed := true }
def IpeBackUptoSaid : Prop := ipeBackUptoRow.holds Try.pinned (OpenSpec.upto ipeBackSpec)

/-- 'fareboxlaw12.ListsGrow', WHERE WHAT IT READS IS OF BULK AT MOST 1048576: true; the input reads as it did. -/
def listsGrowUptoRow : OpenClaim := { program := "ythbmllekbbfobaa", sum := "fba5c2a87ed435bd2953a100d4056a36e8680c4fb85f2f96b9c87049d72104d7", func := "farebox/fareboxlaw12.ListsGrow", spec := "listsGrow", unfollowed := true, recurses := true, apart := false, narrowed := true }
def ListsGrowUptoSaid : Prop := listsGrowUptoRow.holds Try.pinned (OpenSpec.upto listsGrowSpec)

/-- 'fareboxlaw12.ListsPlays', WHERE WHAT IT READS IS OF BULK AT MOST 1048576: true; the input reads as it did. -/
def listsPlaysUptoRow : OpenClaim := { program := "ythbmllekbbfobaa", sum := "fba5c2a87ed435bd2953a100d4056a36e8680c4fb85f2f96b9c87049d72104d7", func := "farebox/fareboxlaw12.ListsPlays", spec := "listsPlays", unfollowed := true, recurses := true, apart := false, narrowed := true }
def ListsPlaysUptoSaid : Prop := listsPlaysUptoRow.holds Try.pinned (OpenSpec.upto listsPlaysSpec)

/-- 'fareboxlaw21.RulesShares', WHERE WHAT IT READS IS OF BULK AT MOST 1048576: true; the input reads as it did. -/
def rulesSharesUptoRow : OpenClaim := { program := "ythbmllekbbfobaa", sum := "fba5c2a87ed435bd2953a100d4056a36e8680c4fb85f2f96b9c87049d72104d7", func := "farebox/fareboxlaw21.RulesShares", spec := "rulesShares", inPlace := ["slices.overlaps[farebox/api.Rule]"], unfollowed := true, recurses := true, apart := false, narrowed := true }
def RulesSharesUptoSaid : Prop := rulesSharesUptoRow.holds Try.pinned (OpenSpec.upto rulesSharesSpec)

/-- 'fareboxlaw21.RulesPlay', WHERE WHAT IT READS IS OF BULK AT MOST 1048576: true; the input reads as it did. -/
def rulesPlayUptoRow : OpenClaim := { program := "ythbmllekbbfobaa", sum := "fba5c2a87ed435bd2953a100d4056a36e8680c4fb85f2f96b9c87049d72104d7", func := "farebox/fareboxlaw21.RulesPlay", spec := "rulesPlay", inPlace := ["slices.overlaps[farebox/api.Rule]"], unfollowed := true, recurses := true, apart := false, narrowed := true }
def RulesPlayUptoSaid : Prop := rulesPlayUptoRow.holds Try.pinned (OpenSpec.upto rulesPlaySpec)

/-- 'fareboxlaw21.RulesLast', WHERE WHAT IT READS IS OF BULK AT MOST 1048576: true; the input reads as it did. -/
def rulesLastUptoRow : OpenClaim := { program := "ythbmllekbbfobaa", sum := "fba5c2a87ed435bd2953a100d4056a36e8680c4fb85f2f96b9c87049d72104d7", func := "farebox/fareboxlaw21.RulesLast", spec := "rulesLast", inPlace := ["slices.overlaps[farebox/api.Rule]"], unfollowed := true, recurses := true, apart := false, narrowed := true }
def RulesLastUptoSaid : Prop := rulesLastUptoRow.holds Try.pinned (OpenSpec.upto rulesLastSpec)

/-- 'fareboxlaw21.RulesForms', WHERE WHAT IT READS IS OF BULK AT MOST 1048576: true; the input reads as it did. -/
def rulesFormsUptoRow : OpenClaim := { program := "ythbmllekbbfobaa", sum := "fba5c2a87ed435bd2953a100d4056a36e8680c4fb85f2f96b9c87049d72104d7", func := "farebox/fareboxlaw21.RulesForms", spec := "rulesForms", inPlace := ["slices.overlaps[farebox/api.Rule]"], unfollowed := true, recurses := true, apart := false, narrowed := true }
def RulesFormsUptoSaid : Prop := rulesFormsUptoRow.holds Try.pinned (OpenSpec.upto rulesFormsSpec)

end Rows
end Go.Proofs.Ythbmllekbbfobaa
