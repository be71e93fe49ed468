/-
  No cell of these rows narrows 'for every input' (looked for: loops, veiled, ifaces, maps, wideKeys, modest, calm, conditions, laid).
  DERIVED. THE GIVEN ROWS OF THIS SEAT. 12 by the template 'for every input the law returns true; each argument reads behind the call as it read before'; 0 by the template 'total and deterministic' (their statements: YtncdakkigkmfjaaTotals.lean).
  GIVEN WITH THE SEED: the statements are not yours to turn. If you find one false, say at which input.
  Laid BY PROGRAM, IN A SANDBOX (cutbox-rows.mjs): the forced cells as the released guide's own fill.sh prints them over the translation 4905e11b9d859dfa… (all of the seat's roots in one cut). By AI agents, Wed Nov 11 2026. No macro, syntax, notation, axiom, sorry.
-/
import Derived.Test.YtncdakkigkmfjaaChecked
import GoSem.Claim
import GoSem.ClaimJoined
import GoSem.ClaimMapViews
import Derived.JoinedTies
import Derived.KernelRfl
namespace Go.Proofs.Ytncdakkigkmfjaa
/- THE CELL 'sum', in the pinned program and in every row, IS THE sha256 OF THE DUMP (.gsa) THAT YtncdakkigkmfjaaProg.lean LOADS. Nothing in Lean hashes anything: it is a label: what it is worth is what the hold of that sum in a sandbox is worth. -/
noncomputable def Try.pinned : Pinned := { name := "ytncdakkigkmfjaa", sum := "4905e11b9d859dfab38f718b1dd870f52e2c1a3222e7d9b3b17f02c53d112aaf", checked := Try.checked }
namespace Rows
def none {H : Type} : Left H := { results := [], args := [] }

/-- 'fareboxlaw09.KeysAsks': WHATEVER THE INPUT: true; the input reads as it did. -/
def keysAsksSpec : ChangeSpec := { name := "keysAsks", fn := fun _ => fun
  | [d1, d2, d3] => { results := [.lit (.bool true)], args := [d1, d2, d3] }
  | _ => none }
def keysAsksRow : OpenClaim := { program := "ytncdakkigkmfjaa", sum := "4905e11b9d859dfab38f718b1dd870f52e2c1a3222e7d9b3b17f02c53d112aaf", func := "farebox/fareboxlaw09.KeysAsks", spec := "keysAsks", apart := false }
def KeysAsksSaid : Prop := keysAsksRow.holds Try.pinned (OpenSpec.ofChange keysAsksSpec)

/-- ITS FALSE NEIGHBOUR: 'it returns false'. Refute it at one input. -/
def keysAsksWrong : ChangeSpec := { name := "keysAsks", fn := fun _ => fun
  | [d1, d2, d3] => { results := [.lit (.bool false)], args := [d1, d2, d3] }
  | _ => none }
def KeysAsksWrongFalsely : Prop := keysAsksRow.holds Try.pinned (OpenSpec.ofChange keysAsksWrong)

/-- 'fareboxlaw09.KeysDown': WHATEVER THE INPUT: true; the input reads as it did. -/
def keysDownSpec : ChangeSpec := { name := "keysDown", fn := fun _ => fun
  | [d1, d2] => { results := [.lit (.bool true)], args := [d1, d2] }
  | _ => none }
def keysDownRow : OpenClaim := { program := "ytncdakkigkmfjaa", sum := "4905e11b9d859dfab38f718b1dd870f52e2c1a3222e7d9b3b17f02c53d112aaf", func := "farebox/fareboxlaw09.KeysDown", spec := "keysDown", apart := false }
def KeysDownSaid : Prop := keysDownRow.holds Try.pinned (OpenSpec.ofChange keysDownSpec)

/-- ITS FALSE NEIGHBOUR: 'it returns false'. Refute it at one input. -/
def keysDownWrong : ChangeSpec := { name := "keysDown", fn := fun _ => fun
  | [d1, d2] => { results := [.lit (.bool false)], args := [d1, d2] }
  | _ => none }
def KeysDownWrongFalsely : Prop := keysDownRow.holds Try.pinned (OpenSpec.ofChange keysDownWrong)

/-- 'fareboxlaw09.KeysApart': WHATEVER THE INPUT: true; the input reads as it did. -/
def keysApartSpec : ChangeSpec := { name := "keysApart", fn := fun _ => fun
  | [d1, d2] => { results := [.lit (.bool true)], args := [d1, d2] }
  | _ => none }
def keysApartRow : OpenClaim := { program := "ytncdakkigkmfjaa", sum := "4905e11b9d859dfab38f718b1dd870f52e2c1a3222e7d9b3b17f02c53d112aaf", func := "farebox/fareboxlaw09.KeysApart", spec := "keysApart", apart := false }
def KeysApartSaid : Prop := keysApartRow.holds Try.pinned (OpenSpec.ofChange keysApartSpec)

/-- ITS FALSE NEIGHBOUR: 'it returns false'. Refute it at one input. -/
def keysApartWrong : ChangeSpec := { name := "keysApart", fn := fun _ => fun
  | [d1, d2] => { results := [.lit (.bool false)], args := [d1, d2] }
  | _ => none }
def KeysApartWrongFalsely : Prop := keysApartRow.holds Try.pinned (OpenSpec.ofChange keysApartWrong)

/-- 'fareboxlaw09.KeysProducts': WHATEVER THE INPUT: true; the input reads as it did. -/
def keysProductsSpec : ChangeSpec := { name := "keysProducts", fn := fun _ => fun
  | [d1, d2, d3] => { results := [.lit (.bool true)], args := [d1, d2, d3] }
  | _ => none }
def keysProductsRow : OpenClaim := { program := "ytncdakkigkmfjaa", sum := "4905e11b9d859dfab38f718b1dd870f52e2c1a3222e7d9b3b17f02c53d112aaf", func := "farebox/fareboxlaw09.KeysProducts", spec := "keysProducts", apart := false }
def KeysProductsSaid : Prop := keysProductsRow.holds Try.pinned (OpenSpec.ofChange keysProductsSpec)

/-- ITS FALSE NEIGHBOUR: 'it returns false'. Refute it at one input. -/
def keysProductsWrong : ChangeSpec := { name := "keysProducts", fn := fun _ => fun
  | [d1, d2, d3] => { results := [.lit (.bool false)], args := [d1, d2, d3] }
  | _ => none }
def KeysProductsWrongFalsely : Prop := keysProductsRow.holds Try.pinned (OpenSpec.ofChange keysProductsWrong)

/-- 'fareboxlaw09.KeysRolls': WHATEVER THE INPUT: true; the input reads as it did. -/
def keysRollsSpec : ChangeSpec := { name := "keysRolls", fn := fun _ => fun
  | [d1, d2] => { results := [.lit (.bool true)], args := [d1, d2] }
  | _ => none }
def keysRollsRow : OpenClaim := { program := "ytncdakkigkmfjaa", sum := "4905e11b9d859dfab38f718b1dd870f52e2c1a3222e7d9b3b17f02c53d112aaf", func := "farebox/fareboxlaw09.KeysRolls", spec := "keysRolls", apart := false }
def KeysRollsSaid : Prop := keysRollsRow.holds Try.pinned (OpenSpec.ofChange keysRollsSpec)

/-- ITS FALSE NEIGHBOUR: 'it returns false'. Refute it at one input. -/
def keysRollsWrong : ChangeSpec := { name := "keysRolls", fn := fun _ => fun
  | [d1, d2] => { results := [.lit (.bool false)], args := [d1, d2] }
  | _ => none }
def KeysRollsWrongFalsely : Prop := keysRollsRow.holds Try.pinned (OpenSpec.ofChange keysRollsWrong)

/-- 'fareboxlaw13.FareCosts': WHATEVER THE INPUT: true; the input reads as it did. -/
def fareCostsSpec : ChangeSpec := { name := "fareCosts", fn := fun _ => fun
  | [d1, d2, d3] => { results := [.lit (.bool true)], args := [d1, d2, d3] }
  | _ => none }
def fareCostsRow : OpenClaim := { program := "ytncdakkigkmfjaa", sum := "4905e11b9d859dfab38f718b1dd870f52e2c1a3222e7d9b3b17f02c53d112aaf", func := "farebox/fareboxlaw13.FareCosts", spec := "fareCosts", unfollowed := true, recurses := true, apart := false }
def FareCostsSaid : Prop := fareCostsRow.holds Try.pinned (OpenSpec.ofChange fareCostsSpec)

/-- ITS FALSE NEIGHBOUR: 'it returns false'. Refute it at one input. -/
def fareCostsWrong : ChangeSpec := { name := "fareCosts", fn := fun _ => fun
  | [d1, d2, d3] => { results := [.lit (.bool false)], args := [d1, d2, d3] }
  | _ => none }
def FareCostsWrongFalsely : Prop := fareCostsRow.holds Try.pinned (OpenSpec.ofChange fareCostsWrong)

/-- 'fareboxlaw13.FareBatches': WHATEVER THE INPUT: true; the input reads as it did. -/
def fareBatchesSpec : ChangeSpec := { name := "fareBatches", fn := fun _ => fun
  | [d1, d2] => { results := [.lit (.bool true)], args := [d1, d2] }
  | _ => none }
def fareBatchesRow : OpenClaim := { program := "ytncdakkigkmfjaa", sum := "4905e11b9d859dfab38f718b1dd870f52e2c1a3222e7d9b3b17f02c53d112aaf", func := "farebox/fareboxlaw13.FareBatches", spec := "fareBatches", unfollowed := true, recurses := true, apart := false }
def FareBatchesSaid : Prop := fareBatchesRow.holds Try.pinned (OpenSpec.ofChange fareBatchesSpec)

/-- ITS FALSE NEIGHBOUR: 'it returns false'. Refute it at one input. -/
def fareBatchesWrong : ChangeSpec := { name := "fareBatches", fn := fun _ => fun
  | [d1, d2] => { results := [.lit (.bool false)], args := [d1, d2] }
  | _ => none }
def FareBatchesWrongFalsely : Prop := fareBatchesRow.holds Try.pinned (OpenSpec.ofChange fareBatchesWrong)

/-- 'fareboxlaw17.BatchOrder': WHATEVER THE INPUT: true; the input reads as it did. -/
def batchOrderSpec : ChangeSpec := { name := "batchOrder", fn := fun _ => fun
  | [d1, d2, d3] => { results := [.lit (.bool true)], args := [d1, d2, d3] }
  | _ => none }
def batchOrderRow : OpenClaim := { program := "ytncdakkigkmfjaa", sum := "4905e11b9d859dfab38f718b1dd870f52e2c1a3222e7d9b3b17f02c53d112aaf", func := "farebox/fareboxlaw17.BatchOrder", spec := "batchOrder", unfollowed := true, recurses := true, apart := false }
def BatchOrderSaid : Prop := batchOrderRow.holds Try.pinned (OpenSpec.ofChange batchOrderSpec)

/-- ITS FALSE NEIGHBOUR: 'it returns false'. Refute it at one input. -/
def batchOrderWrong : ChangeSpec := { name := "batchOrder", fn := fun _ => fun
  | [d1, d2, d3] => { results := [.lit (.bool false)], args := [d1, d2, d3] }
  | _ => none }
def BatchOrderWrongFalsely : Prop := batchOrderRow.holds Try.pinned (OpenSpec.ofChange batchOrderWrong)

/-- 'fareboxlaw17.BatchKeeps': WHATEVER THE INPUT: true; the input reads as it did. -/
def batchKeepsSpec : ChangeSpec := { name := "batchKeeps", fn := fun _ => fun
  | [d1, d2] => { results := [.lit (.bool true)], args := [d1, d2] }
  | _ => none }
def batchKeepsRow : OpenClaim := { program := "ytncdakkigkmfjaa", sum := "4905e11b9d859dfab38f718b1dd870f52e2c1a3222e7d9b3b17f02c53d112aaf", func := "farebox/fareboxlaw17.BatchKeeps", spec := "batchKeeps", unfollowed := true, recurses := true, apart := false }
def BatchKeepsSaid : Prop := batchKeepsRow.holds Try.pinned (OpenSpec.ofChange batchKeepsSpec)

/-- ITS FALSE NEIGHBOUR: 'it returns false'. Refute it at one input. -/
def batchKeepsWrong : ChangeSpec := { name := "batchKeeps", fn := fun _ => fun
  | [d1, d2] => { results := [.lit (.bool false)], args := [d1, d2] }
  | _ => none }
def BatchKeepsWrongFalsely : Prop := batchKeepsRow.holds Try.pinned (OpenSpec.ofChange batchKeepsWrong)

/-- 'fareboxlaw13.FareJourneys': WHATEVER THE INPUT: true; the input reads as it did. -/
def fareJourneysSpec : ChangeSpec := { name := "fareJourneys", fn := fun _ => fun
  | [d1, d2] => { results := [.lit (.bool true)], args := [d1, d2] }
  | _ => none }
def fareJourneysRow : OpenClaim := { program := "ytncdakkigkmfjaa", sum := "4905e11b9d859dfab38f718b1dd870f52e2c1a3222e7d9b3b17f02c53d112aaf", func := "farebox/fareboxlaw13.FareJourneys", spec := "fareJourneys", unfollowed := true, recurses := true, apart := false }
def FareJourneysSaid : Prop := fareJourneysRow.holds Try.pinned (OpenSpec.ofChange fareJourneysSpec)

/-- ITS FALSE NEIGHBOUR: 'it returns false'. Refute it at one input. -/
def fareJourneysWrong : ChangeSpec := { name := "fareJourneys", fn := fun _ => fun
  | [d1, d2] => { results := [.lit (.bool false)], args := [d1, d2] }
  | _ => none }
def FareJourneysWrongFalsely : Prop := fareJourneysRow.holds Try.pinned (OpenSpec.ofChange fareJourneysWrong)

/-- 'fareboxlaw13.FareTotals': WHATEVER THE INPUT: true; the input reads as it did. -/
def fareTotalsSpec : ChangeSpec := { name := "fareTotals", fn := fun _ => fun
  | [d1, d2] => { results := [.lit (.bool true)], args := [d1, d2] }
  | _ => none }
def fareTotalsRow : OpenClaim := { program := "ytncdakkigkmfjaa", sum := "4905e11b9d859dfab38f718b1dd870f52e2c1a3222e7d9b3b17f02c53d112aaf", func := "farebox/fareboxlaw13.FareTotals", spec := "fareTotals", unfollowed := true, recurses := true, apart := false }
def FareTotalsSaid : Prop := fareTotalsRow.holds Try.pinned (OpenSpec.ofChange fareTotalsSpec)

/-- ITS FALSE NEIGHBOUR: 'it returns false'. Refute it at one input. -/
def fareTotalsWrong : ChangeSpec := { name := "fareTotals", fn := fun _ => fun
  | [d1, d2] => { results := [.lit (.bool false)], args := [d1, d2] }
  | _ => none }
def FareTotalsWrongFalsely : Prop := fareTotalsRow.holds Try.pinned (OpenSpec.ofChange fareTotalsWrong)

/-- 'fareboxlaw05.MoneySplits': WHATEVER THE INPUT: true; the input reads as it did. -/
def moneySplitsSpec : ChangeSpec := { name := "moneySplits", fn := fun _ => fun
  | [d1, d2] => { results := [.lit (.bool true)], args := [d1, d2] }
  | _ => none }
def moneySplitsRow : OpenClaim := { program := "ytncdakkigkmfjaa", sum := "4905e11b9d859dfab38f718b1dd870f52e2c1a3222e7d9b3b17f02c53d112aaf", func := "farebox/fareboxlaw05.MoneySplits", spec := "moneySplits", unfollowed := true, recurses := true, apart := false }
def MoneySplitsSaid : Prop := moneySplitsRow.holds Try.pinned (OpenSpec.ofChange moneySplitsSpec)

/-- ITS FALSE NEIGHBOUR: 'it returns false'. Refute it at one input. -/
def moneySplitsWrong : ChangeSpec := { name := "moneySplits", fn := fun _ => fun
  | [d1, d2] => { results := [.lit (.bool false)], args := [d1, d2] }
  | _ => none }
def MoneySplitsWrongFalsely : Prop := moneySplitsRow.holds Try.pinned (OpenSpec.ofChange moneySplitsWrong)

/- THE SECOND FORM. 'bulk': how many values and letters a reading holds, each counted each time it is reached (what is shared counts as often as it is met; a slice's spare places count too). A statement '..UptoSaid' is the law's where the arguments, and the package variables that the reading takes, are together of bulk at most 1048576: NARROWER than '..Said'. Prove '..Said' where nothing that the law and all that it calls make is longer than what came in: it says more and counts as full. Else prove '..UptoSaid'. A law counts once. -/
mutual
def uptoBulk {H : Type} : DataW H → Nat
  | .lit (.string bytes) => bytes.length + 1
  | .lit _ => 1
  | .nil => 1
  | .ptr d => uptoBulk d + 1
  | .slice elems spare => uptoBulkAll elems + uptoBulkAll spare + 1
  | .agg parts => uptoBulkAll parts + 1
  | .iface _ d => uptoBulk d + 1
  | .map entries => uptoBulkEntries entries + 1
  | .held _ => 1
def uptoBulkAll {H : Type} : List (DataW H) → Nat
  | [] => 0
  | d :: r => uptoBulk d + uptoBulkAll r
def uptoBulkEntries {H : Type} : List (Lit × DataW H) → Nat
  | [] => 0
  | x :: r => uptoBulkEntry x + uptoBulkEntries r
def uptoBulkEntry {H : Type} : Lit × DataW H → Nat
  | (.string bytes, d) => bytes.length + uptoBulk d + 1
  | (_, d) => uptoBulk d + 1
 end
def uptoSmall : (H : Type) → List (DataW H) → Bool := fun _ ds => decide (uptoBulkAll ds ≤ 1048576)
def OpenSpec.upto (s : _root_.Go.ChangeSpec) : _root_.Go.OpenSpec := { _root_.Go.OpenSpec.ofChange s with cond := some uptoSmall }

/-- 'fareboxlaw09.KeysAsks', WHERE WHAT IT READS IS OF BULK AT MOST 1048576: true; the input reads as it did. -/
def keysAsksUptoRow : OpenClaim := { program := "ytncdakkigkmfjaa", sum := "4905e11b9d859dfab38f718b1dd870f52e2c1a3222e7d9b3b17f02c53d112aaf", func := "farebox/fareboxlaw09.KeysAsks", spec := "keysAsks", apart := false, narrowed := true }
def KeysAsksUptoSaid : Prop := keysAsksUptoRow.holds Try.pinned (OpenSpec.upto keysAsksSpec)

/-- 'fareboxlaw09.KeysDown', WHERE WHAT IT READS IS OF BULK AT MOST 1048576: true; the input reads as it did. -/
def keysDownUptoRow : OpenClaim := { program := "ytncdakkigkmfjaa", sum := "4905e11b9d859dfab38f718b1dd870f52e2c1a3222e7d9b3b17f02c53d112aaf", func := "farebox/fareboxlaw09.KeysDown", spec := "keysDown", apart := false, narrowed := true }
def KeysDownUptoSaid : Prop := keysDownUptoRow.holds Try.pinned (OpenSpec.upto keysDownSpec)

/-- 'fareboxlaw09.KeysApart', WHERE WHAT IT READS IS OF BULK AT MOST 1048576: true; the input reads as it did. -/
def keysApartUptoRow : OpenClaim := { program := "ytncdakkigkmfjaa", sum := "4905e11b9d859dfab38f718b1dd870f52e2c1a3222e7d9b3b17f02c53d112aaf", func := "farebox/fareboxlaw09.KeysApart", spec := "keysApart", apart := false, narrowed := true }
def KeysApartUptoSaid : Prop := keysApartUptoRow.holds Try.pinned (OpenSpec.upto keysApartSpec)

/-- 'fareboxlaw09.KeysProducts', WHERE WHAT IT READS IS OF BULK AT MOST 1048576: true; the input reads as it did. -/
def keysProductsUptoRow : OpenClaim := { program := "ytncdakkigkmfjaa", sum := "4905e11b9d859dfab38f718b1dd870f52e2c1a3222e7d9b3b17f02c53d112aaf", func := "farebox/fareboxlaw09.KeysProducts", spec := "keysProducts", apart := false, narrowed := true }
def KeysProductsUptoSaid : Prop := keysProductsUptoRow.holds Try.pinned (OpenSpec.upto keysProductsSpec)

/-- 'fareboxlaw09.KeysRolls', WHERE WHAT IT READS IS OF BULK AT MOST 1048576: true; the input reads as it did. -/
def keysRollsUptoRow : OpenClaim := { program := "ytncdakkigkmfjaa", sum := "4905e11b9d859dfab38f718b1dd870f52e2c1a3222e7d9b3b17f02c53d112aaf", func := "farebox/fareboxlaw09.KeysRolls", spec := "keysRolls", apart := false, narrowed := true }
def KeysRollsUptoSaid : Prop := keysRollsUptoRow.holds Try.pinned (OpenSpec.upto keysRollsSpec)

/-- 'fareboxlaw13.FareCosts', WHERE WHAT IT READS IS OF BULK AT MOST 1048576: true; the input reads as it did. -/
def fareCostsUptoRow : OpenClaim := { program := "ytncdakkigkmfjaa", sum := "4905e11b9d859dfab38f718b1dd870f52e2c1a3222e7d9b3b17f02c53d112aaf", func := "farebox/fareboxlaw13.FareCosts", spec := "fareCosts", unfollowed := true, recurses := true, apart := false, narrowed := true }
def FareCostsUptoSaid : Prop := fareCostsUptoRow.holds Try.pinned (OpenSpec.upto fareCostsSpec)

/-- 'fareboxlaw13.FareBatches', WHERE WHAT IT READS IS OF BULK AT MOST 1048576: true; the input reads as it did. -/
def fareBatchesUptoRow : OpenClaim := { program := "ytncdakkigkmfjaa", sum := "4905e11b9d859dfab38f718b1dd870f52e2c1a3222e7d9b3b17f02c53d112aaf", func := "farebox/fareboxlaw13.FareBatches", spec := "fareBatches", unfollowed := true, recurses := true, apart := false, narrowed := true }
def FareBatchesUptoSaid : Prop := fareBatchesUptoRow.holds Try.pinned (OpenSpec.upto fareBatchesSpec)

/-- 'fareboxlaw17.BatchOrder', WHERE WHAT IT READS IS OF BULK AT MOST 1048576: true; the input reads as it did. -/
def batchOrderUptoRow : OpenClaim := { program := "ytncdakkigkmfjaa", sum := "4905e11b9d859dfab38f718b1dd870f52e2c1a3222e7d9b3b17f02c53d112aaf", func := "farebox/fareboxlaw17.BatchOrder", spec := "batchOrder", unfollowed := true, recurses := true, apart := false, narrowed := true }
def BatchOrderUptoSaid : Prop := batchOrderUptoRow.holds Try.pinned (OpenSpec.upto batchOrderSpec)

/-- 'fareboxlaw17.BatchKeeps', WHERE WHAT IT READS IS OF BULK AT MOST 1048576: true; the input reads as it did. -/
def batchKeepsUptoRow : OpenClaim := { program := "ytncdakkigkmfjaa", sum := "4905e11b9d859dfab38f718b1dd870f52e2c1a3222e7d9b3b17f02c53d112aaf", func := "farebox/fareboxlaw17.BatchKeeps", spec := "batchKeeps", unfollowed := true, recurses := true, apart := false, narrowed := true }
def BatchKeepsUptoSaid : Prop := batchKeepsUptoRow.holds Try.pinned (OpenSpec.upto batchKeepsSpec)

/-- 'fareboxlaw13.FareJourneys', WHERE WHAT IT READS IS OF BULK AT MOST 1048576: true; the input reads as it did. -/
def fareJourneysUptoRow : OpenClaim := { program := "ytncdakkigkmfjaa", sum := "4905e11b9d859dfab38f718b1dd870f52e2c1a3222e7d9b3b17f02c53d112aaf", func := "farebox/fareboxlaw13.FareJourneys", spec := "fareJourneys", unfollowed := true, recurses := true, apart := false, narrowed := true }
def FareJourneysUptoSaid : Prop := fareJourneysUptoRow.holds Try.pinned (OpenSpec.upto fareJourneysSpec)

/-- 'fareboxlaw13.FareTotals', WHERE WHAT IT READS IS OF BULK AT MOST 1048576: true; the input reads as it did. -/
def fareTotalsUptoRow : OpenClaim := { program := "ytncdakkigkmfjaa", sum := "4905e11b9d859dfab38f718b1dd870f52e2c1a3222e7d9b3b17f02c53d112aaf", func := "farebox/fareboxlaw13.FareTotals", spec := "fareTotals", unfollowed := true, recurses := true, apart := false, narrowed := true }
def FareTotalsUptoSaid : Prop := fareTotalsUptoRow.holds Try.pinned (OpenSpec.upto fareTotalsSpec)

/-- 'fareboxlaw05.MoneySplits', WHERE WHAT IT READS IS OF BULK AT MOST 1048576: true; the input reads as it did. -/
def moneySplitsUptoRow : OpenClaim := { program := "ytncdakkigkmfjaa", sum := "4905e11b9d859dfab38f718b1dd870f52e2c1a3222e7d9b3b17f02c53d112aaf", func := "farebox/fareboxlaw05.MoneySplits", spec := "moneySplits", unfollowed := true, recurses := true, apart := false, narrowed := true }
def MoneySplitsUptoSaid : Prop := moneySplitsUptoRow.holds Try.pinned (OpenSpec.upto moneySplitsSpec)

end Rows
end Go.Proofs.Ytncdakkigkmfjaa
