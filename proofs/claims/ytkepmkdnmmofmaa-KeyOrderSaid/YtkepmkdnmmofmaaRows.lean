/-
  No cell of these rows narrows 'for every input' (looked for: loops, veiled, ifaces, maps, wideKeys, modest, calm, conditions, laid).
  DERIVED. THE GIVEN ROWS OF THIS SEAT. 11 by the template 'for every input the law returns true; each argument reads behind the call as it read before'; 0 by the template 'total and deterministic' (their statements: YtkepmkdnmmofmaaTotals.lean).
  GIVEN WITH THE SEED: the statements are not yours to turn. If you find one false, say at which input.
  Laid BY PROGRAM, IN A SANDBOX (cutbox-rows.mjs): the forced cells as the released guide's own fill.sh prints them over the translation 0461ee474c127a69… (all of the seat's roots in one cut). By AI agents, Wed Nov 11 2026. No macro, syntax, notation, axiom, sorry.
-/
import Derived.Test.YtkepmkdnmmofmaaChecked
import GoSem.Claim
import GoSem.ClaimJoined
import GoSem.ClaimMapViews
import Derived.JoinedTies
import Derived.KernelRfl
namespace Go.Proofs.Ytkepmkdnmmofmaa
/- THE CELL 'sum', in the pinned program and in every row, IS THE sha256 OF THE DUMP (.gsa) THAT YtkepmkdnmmofmaaProg.lean LOADS. Nothing in Lean hashes anything: it is a label: what it is worth is what the hold of that sum in a sandbox is worth. -/
noncomputable def Try.pinned : Pinned := { name := "ytkepmkdnmmofmaa", sum := "0461ee474c127a691ef57dbac334d9fd98ae58c25b11f80e4b42358ab04d3d23", checked := Try.checked }
namespace Rows
def none {H : Type} : Left H := { results := [], args := [] }

/-- 'gessolaw17.RadixTells': WHATEVER THE INPUT: true; the input reads as it did. -/
def radixTellsSpec : ChangeSpec := { name := "radixTells", fn := fun _ => fun
  | [d] => { results := [.lit (.bool true)], args := [d] }
  | _ => none }
def radixTellsRow : OpenClaim := { program := "ytkepmkdnmmofmaa", sum := "0461ee474c127a691ef57dbac334d9fd98ae58c25b11f80e4b42358ab04d3d23", func := "gesso/gessolaw17.RadixTells", spec := "radixTells", apart := false }
def RadixTellsSaid : Prop := radixTellsRow.holds Try.pinned (OpenSpec.ofChange radixTellsSpec)

/-- ITS FALSE NEIGHBOUR: 'it returns false'. Refute it at one input. -/
def radixTellsWrong : ChangeSpec := { name := "radixTells", fn := fun _ => fun
  | [d] => { results := [.lit (.bool false)], args := [d] }
  | _ => none }
def RadixTellsWrongFalsely : Prop := radixTellsRow.holds Try.pinned (OpenSpec.ofChange radixTellsWrong)

/-- 'gessolaw17.RadixPermutes': WHATEVER THE INPUT: true; the input reads as it did. -/
def radixPermutesSpec : ChangeSpec := { name := "radixPermutes", fn := fun _ => fun
  | [d] => { results := [.lit (.bool true)], args := [d] }
  | _ => none }
def radixPermutesRow : OpenClaim := { program := "ytkepmkdnmmofmaa", sum := "0461ee474c127a691ef57dbac334d9fd98ae58c25b11f80e4b42358ab04d3d23", func := "gesso/gessolaw17.RadixPermutes", spec := "radixPermutes", apart := false }
def RadixPermutesSaid : Prop := radixPermutesRow.holds Try.pinned (OpenSpec.ofChange radixPermutesSpec)

/-- ITS FALSE NEIGHBOUR: 'it returns false'. Refute it at one input. -/
def radixPermutesWrong : ChangeSpec := { name := "radixPermutes", fn := fun _ => fun
  | [d] => { results := [.lit (.bool false)], args := [d] }
  | _ => none }
def RadixPermutesWrongFalsely : Prop := radixPermutesRow.holds Try.pinned (OpenSpec.ofChange radixPermutesWrong)

/-- 'gessolaw21.SumTells': WHATEVER THE INPUT: true; the input reads as it did. -/
def sumTellsSpec : ChangeSpec := { name := "sumTells", fn := fun _ => fun
  | [d] => { results := [.lit (.bool true)], args := [d] }
  | _ => none }
def sumTellsRow : OpenClaim := { program := "ytkepmkdnmmofmaa", sum := "0461ee474c127a691ef57dbac334d9fd98ae58c25b11f80e4b42358ab04d3d23", func := "gesso/gessolaw21.SumTells", spec := "sumTells", apart := false }
def SumTellsSaid : Prop := sumTellsRow.holds Try.pinned (OpenSpec.ofChange sumTellsSpec)

/-- ITS FALSE NEIGHBOUR: 'it returns false'. Refute it at one input. -/
def sumTellsWrong : ChangeSpec := { name := "sumTells", fn := fun _ => fun
  | [d] => { results := [.lit (.bool false)], args := [d] }
  | _ => none }
def SumTellsWrongFalsely : Prop := sumTellsRow.holds Try.pinned (OpenSpec.ofChange sumTellsWrong)

/-- 'gessolaw21.SumBursts': WHATEVER THE INPUT: true; the input reads as it did. -/
def sumBurstsSpec : ChangeSpec := { name := "sumBursts", fn := fun _ => fun
  | [d1, d2, d3] => { results := [.lit (.bool true)], args := [d1, d2, d3] }
  | _ => none }
def sumBurstsRow : OpenClaim := { program := "ytkepmkdnmmofmaa", sum := "0461ee474c127a691ef57dbac334d9fd98ae58c25b11f80e4b42358ab04d3d23", func := "gesso/gessolaw21.SumBursts", spec := "sumBursts", apart := false }
def SumBurstsSaid : Prop := sumBurstsRow.holds Try.pinned (OpenSpec.ofChange sumBurstsSpec)

/-- ITS FALSE NEIGHBOUR: 'it returns false'. Refute it at one input. -/
def sumBurstsWrong : ChangeSpec := { name := "sumBursts", fn := fun _ => fun
  | [d1, d2, d3] => { results := [.lit (.bool false)], args := [d1, d2, d3] }
  | _ => none }
def SumBurstsWrongFalsely : Prop := sumBurstsRow.holds Try.pinned (OpenSpec.ofChange sumBurstsWrong)

/-- 'gessolaw01.FixFloors': WHATEVER THE INPUT: true; the input reads as it did. -/
def fixFloorsSpec : ChangeSpec := { name := "fixFloors", fn := fun _ => fun
  | [d1, d2, d3] => { results := [.lit (.bool true)], args := [d1, d2, d3] }
  | _ => none }
def fixFloorsRow : OpenClaim := { program := "ytkepmkdnmmofmaa", sum := "0461ee474c127a691ef57dbac334d9fd98ae58c25b11f80e4b42358ab04d3d23", func := "gesso/gessolaw01.FixFloors", spec := "fixFloors", unfollowed := true, recurses := true, apart := false }
def FixFloorsSaid : Prop := fixFloorsRow.holds Try.pinned (OpenSpec.ofChange fixFloorsSpec)

/-- ITS FALSE NEIGHBOUR: 'it returns false'. Refute it at one input. -/
def fixFloorsWrong : ChangeSpec := { name := "fixFloors", fn := fun _ => fun
  | [d1, d2, d3] => { results := [.lit (.bool false)], args := [d1, d2, d3] }
  | _ => none }
def FixFloorsWrongFalsely : Prop := fixFloorsRow.holds Try.pinned (OpenSpec.ofChange fixFloorsWrong)

/-- 'gessolaw01.FixTells': WHATEVER THE INPUT: true; the input reads as it did. -/
def fixTellsSpec : ChangeSpec := { name := "fixTells", fn := fun _ => fun
  | [d1, d2, d3] => { results := [.lit (.bool true)], args := [d1, d2, d3] }
  | _ => none }
def fixTellsRow : OpenClaim := { program := "ytkepmkdnmmofmaa", sum := "0461ee474c127a691ef57dbac334d9fd98ae58c25b11f80e4b42358ab04d3d23", func := "gesso/gessolaw01.FixTells", spec := "fixTells", unfollowed := true, recurses := true, apart := false }
def FixTellsSaid : Prop := fixTellsRow.holds Try.pinned (OpenSpec.ofChange fixTellsSpec)

/-- ITS FALSE NEIGHBOUR: 'it returns false'. Refute it at one input. -/
def fixTellsWrong : ChangeSpec := { name := "fixTells", fn := fun _ => fun
  | [d1, d2, d3] => { results := [.lit (.bool false)], args := [d1, d2, d3] }
  | _ => none }
def FixTellsWrongFalsely : Prop := fixTellsRow.holds Try.pinned (OpenSpec.ofChange fixTellsWrong)

/-- 'gessolaw01.FixWhole': WHATEVER THE INPUT: true; the input reads as it did. -/
def fixWholeSpec : ChangeSpec := { name := "fixWhole", fn := fun _ => fun
  | [d] => { results := [.lit (.bool true)], args := [d] }
  | _ => none }
def fixWholeRow : OpenClaim := { program := "ytkepmkdnmmofmaa", sum := "0461ee474c127a691ef57dbac334d9fd98ae58c25b11f80e4b42358ab04d3d23", func := "gesso/gessolaw01.FixWhole", spec := "fixWhole", unfollowed := true, recurses := true, apart := false }
def FixWholeSaid : Prop := fixWholeRow.holds Try.pinned (OpenSpec.ofChange fixWholeSpec)

/-- ITS FALSE NEIGHBOUR: 'it returns false'. Refute it at one input. -/
def fixWholeWrong : ChangeSpec := { name := "fixWhole", fn := fun _ => fun
  | [d] => { results := [.lit (.bool false)], args := [d] }
  | _ => none }
def FixWholeWrongFalsely : Prop := fixWholeRow.holds Try.pinned (OpenSpec.ofChange fixWholeWrong)

/-- 'gessolaw20.OctetsWrites': WHATEVER THE INPUT: true; the input reads as it did. -/
def octetsWritesSpec : ChangeSpec := { name := "octetsWrites", fn := fun _ => fun
  | [d] => { results := [.lit (.bool true)], args := [d] }
  | _ => none }
def octetsWritesRow : OpenClaim := { program := "ytkepmkdnmmofmaa", sum := "0461ee474c127a691ef57dbac334d9fd98ae58c25b11f80e4b42358ab04d3d23", func := "gesso/gessolaw20.OctetsWrites", spec := "octetsWrites", recurses := true, apart := false }
def OctetsWritesSaid : Prop := octetsWritesRow.holds Try.pinned (OpenSpec.ofChange octetsWritesSpec)

/-- ITS FALSE NEIGHBOUR: 'it returns false'. Refute it at one input. -/
def octetsWritesWrong : ChangeSpec := { name := "octetsWrites", fn := fun _ => fun
  | [d] => { results := [.lit (.bool false)], args := [d] }
  | _ => none }
def OctetsWritesWrongFalsely : Prop := octetsWritesRow.holds Try.pinned (OpenSpec.ofChange octetsWritesWrong)

/-- 'gessolaw20.OctetsReads': WHATEVER THE INPUT: true; the input reads as it did. -/
def octetsReadsSpec : ChangeSpec := { name := "octetsReads", fn := fun _ => fun
  | [d1, d2] => { results := [.lit (.bool true)], args := [d1, d2] }
  | _ => none }
def octetsReadsRow : OpenClaim := { program := "ytkepmkdnmmofmaa", sum := "0461ee474c127a691ef57dbac334d9fd98ae58c25b11f80e4b42358ab04d3d23", func := "gesso/gessolaw20.OctetsReads", spec := "octetsReads", recurses := true, apart := false }
def OctetsReadsSaid : Prop := octetsReadsRow.holds Try.pinned (OpenSpec.ofChange octetsReadsSpec)

/-- ITS FALSE NEIGHBOUR: 'it returns false'. Refute it at one input. -/
def octetsReadsWrong : ChangeSpec := { name := "octetsReads", fn := fun _ => fun
  | [d1, d2] => { results := [.lit (.bool false)], args := [d1, d2] }
  | _ => none }
def OctetsReadsWrongFalsely : Prop := octetsReadsRow.holds Try.pinned (OpenSpec.ofChange octetsReadsWrong)

/-- 'gessolaw20.OctetsOne': WHATEVER THE INPUT: true; the input reads as it did. -/
def octetsOneSpec : ChangeSpec := { name := "octetsOne", fn := fun _ => fun
  | [d1, d2] => { results := [.lit (.bool true)], args := [d1, d2] }
  | _ => none }
def octetsOneRow : OpenClaim := { program := "ytkepmkdnmmofmaa", sum := "0461ee474c127a691ef57dbac334d9fd98ae58c25b11f80e4b42358ab04d3d23", func := "gesso/gessolaw20.OctetsOne", spec := "octetsOne", apart := false }
def OctetsOneSaid : Prop := octetsOneRow.holds Try.pinned (OpenSpec.ofChange octetsOneSpec)

/-- ITS FALSE NEIGHBOUR: 'it returns false'. Refute it at one input. -/
def octetsOneWrong : ChangeSpec := { name := "octetsOne", fn := fun _ => fun
  | [d1, d2] => { results := [.lit (.bool false)], args := [d1, d2] }
  | _ => none }
def OctetsOneWrongFalsely : Prop := octetsOneRow.holds Try.pinned (OpenSpec.ofChange octetsOneWrong)

/-- 'gessolaw16.KeyOrder': WHATEVER THE INPUT: true; the input reads as it did. -/
def keyOrderSpec : ChangeSpec := { name := "keyOrder", fn := fun _ => fun
  | [d1, d2] => { results := [.lit (.bool true)], args := [d1, d2] }
  | _ => none }
def keyOrderRow : OpenClaim := { program := "ytkepmkdnmmofmaa", sum := "0461ee474c127a691ef57dbac334d9fd98ae58c25b11f80e4b42358ab04d3d23", func := "gesso/gessolaw16.KeyOrder", spec := "keyOrder", unfollowed := true, recurses := true, apart := false }
def KeyOrderSaid : Prop := keyOrderRow.holds Try.pinned (OpenSpec.ofChange keyOrderSpec)

/-- ITS FALSE NEIGHBOUR: 'it returns false'. Refute it at one input. -/
def keyOrderWrong : ChangeSpec := { name := "keyOrder", fn := fun _ => fun
  | [d1, d2] => { results := [.lit (.bool false)], args := [d1, d2] }
  | _ => none }
def KeyOrderWrongFalsely : Prop := keyOrderRow.holds Try.pinned (OpenSpec.ofChange keyOrderWrong)

/- THE SECOND FORM. 'bulk': how many values and letters a reading holds, each counted each time it is reached (what is shared counts as often as it is met; a slice's spare places count too). A statement '..UptoSaid' is the law's where the arguments, and the package variables that the reading takes, are together of bulk at most 1048576: NARROWER than '..Said'. Prove '..Said' where nothing that the law and all that it calls make is longer than what came in: it says more and counts as full. Else prove '..UptoSaid'. A law counts once. -/
mutual
def uptoBulk {H : Type} : DataW H → Nat
  | .lit (.string bytes) => bytes.length + 1
  | .lit _ => 1
  | .nil => 1
  | .ptr d => uptoBulk d + 1
  | .slice elems spare => uptoBulkAll elems + uptoBulkAll spare + 1
  | .agg parts => uptoBulkAll parts + 1
  | .iface _ d => uptoBulk d + 1
  | .map entries => uptoBulkEntries entries + 1
  | .held _ => 1
def uptoBulkAll {H : Type} : List (DataW H) → Nat
  | [] => 0
  | d :: r => uptoBulk d + uptoBulkAll r
def uptoBulkEntries {H : Type} : List (Lit × DataW H) → Nat
  | [] => 0
  | x :: r => uptoBulkEntry x + uptoBulkEntries r
def uptoBulkEntry {H : Type} : Lit × DataW H → Nat
  | (.string bytes, d) => bytes.length + uptoBulk d + 1
  | (_, d) => uptoBulk d + 1
 end
def uptoSmall : (H : Type) → List (DataW H) → Bool := fun _ ds => decide (uptoBulkAll ds ≤ 1048576)
def OpenSpec.upto (s : _root_.Go.ChangeSpec) : _root_.Go.OpenSpec := { _root_.Go.OpenSpec.ofChange s with cond := some uptoSmall }

/-- 'gessolaw17.RadixTells', WHERE WHAT IT READS IS OF BULK AT MOST 1048576: true; the input reads as it did. -/
def radixTellsUptoRow : OpenClaim := { program := "ytkepmkdnmmofmaa", sum := "0461ee474c127a691ef57dbac334d9fd98ae58c25b11f80e4b42358ab04d3d23", func := "gesso/gessolaw17.RadixTells", spec := "radixTells", apart := false, narrowed := true }
def RadixTellsUptoSaid : Prop := radixTellsUptoRow.holds Try.pinned (OpenSpec.upto radixTellsSpec)

/-- 'gessolaw17.RadixPermutes', WHERE WHAT IT READS IS OF BULK AT MOST 1048576: true; the input reads as it did. -/
def radixPermutesUptoRow : OpenClaim := { program := "ytkepmkdnmmofmaa", sum := "0461ee474c127a691ef57dbac334d9fd98ae58c25b11f80e4b42358ab04d3d23", func := "gesso/gessolaw17.RadixPermutes", spec := "radixPermutes", apart := false, narrowed := true }
def RadixPermutesUptoSaid : Prop := radixPermutesUptoRow.holds Try.pinned (OpenSpec.upto radixPermutesSpec)

/-- 'gessolaw21.SumTells', WHERE WHAT IT READS IS OF BULK AT MOST 1048576: true; the input reads as it did. -/
def sumTellsUptoRow : OpenClaim := { program := "ytkepmkdnmmofmaa", sum := "0461ee474c127a691ef57dbac334d9fd98ae58c25b11f80e4b42358ab04d3d23", func := "gesso/gessolaw21.SumTells", spec := "sumTells", apart := false, narrowed := true }
def SumTellsUptoSaid : Prop := sumTellsUptoRow.holds Try.pinned (OpenSpec.upto sumTellsSpec)

/-- 'gessolaw21.SumBursts', WHERE WHAT IT READS IS OF BULK AT MOST 1048576: true; the input reads as it did. -/
def sumBurstsUptoRow : OpenClaim := { program := "ytkepmkdnmmofmaa", sum := "0461ee474c127a691ef57dbac334d9fd98ae58c25b11f80e4b42358ab04d3d23", func := "gesso/gessolaw21.SumBursts", spec := "sumBursts", apart := false, narrowed := true }
def SumBurstsUptoSaid : Prop := sumBurstsUptoRow.holds Try.pinned (OpenSpec.upto sumBurstsSpec)

/-- 'gessolaw01.FixFloors', WHERE WHAT IT READS IS OF BULK AT MOST 1048576: true; the input reads as it did. -/
def fixFloorsUptoRow : OpenClaim := { program := "ytkepmkdnmmofmaa", sum := "0461ee474c127a691ef57dbac334d9fd98ae58c25b11f80e4b42358ab04d3d23", func := "gesso/gessolaw01.FixFloors", spec := "fixFloors", unfollowed := true, recurses := true, apart := false, narrowed := true }
def FixFloorsUptoSaid : Prop := fixFloorsUptoRow.holds Try.pinned (OpenSpec.upto fixFloorsSpec)

/-- 'gessolaw01.FixTells', WHERE WHAT IT READS IS OF BULK AT MOST 1048576: true; the input reads as it did. -/
def fixTellsUptoRow : OpenClaim := { program := "ytkepmkdnmmofmaa", sum := "0461ee474c127a691ef57dbac334d9fd98ae58c25b11f80e4b42358ab04d3d23", func := "gesso/gessolaw01.FixTells", spec := "fixTells", unfollowed := true, recurses := true, apart := false, narrowed := true }
def FixTellsUptoSaid : Prop := fixTellsUptoRow.holds Try.pinned (OpenSpec.upto fixTellsSpec)

/-- 'gessolaw01.FixWhole', WHERE WHAT IT READS IS OF BULK AT MOST 1048576: true; the input reads as it did. -/
def fixWholeUptoRow : OpenClaim := { program := "ytkepmkdnmmofmaa", sum := "0461ee474c127a691ef57dbac334d9fd98ae58c25b11f80e4b42358ab04d3d23", func := "gesso/gessolaw01.FixWhole", spec := "fixWhole", unfollowed := true, recurses := true, apart := false, narrowed := true }
def FixWholeUptoSaid : Prop := fixWholeUptoRow.holds Try.pinned (OpenSpec.upto fixWholeSpec)

/-- 'gessolaw20.OctetsWrites', WHERE WHAT IT READS IS OF BULK AT MOST 1048576: true; the input reads as it did. -/
def octetsWritesUptoRow : OpenClaim := { program := "ytkepmkdnmmofmaa", sum := "0461ee474c127a691ef57dbac334d9fd98ae58c25b11f80e4b42358ab04d3d23", func := "gesso/gessolaw20.OctetsWrites", spec := "octetsWrites", recurses := true, apart := false, narrowed := true }
def OctetsWritesUptoSaid : Prop := octetsWritesUptoRow.holds Try.pinned (OpenSpec.upto octetsWritesSpec)

/-- 'gessolaw20.OctetsReads', WHERE WHAT IT READS IS OF BULK AT MOST 1048576: true; the input reads as it did. -/
def octetsReadsUptoRow : OpenClaim := { program := "ytkepmkdnmmofmaa", sum := "0461ee474c127a691ef57dbac334d9fd98ae58c25b11f80e4b42358ab04d3d23", func := "gesso/gessolaw20.OctetsReads", spec := "octetsReads", recurses := true, apart := false, narrowed := true }
def OctetsReadsUptoSaid : Prop := octetsReadsUptoRow.holds Try.pinned (OpenSpec.upto octetsReadsSpec)

/-- 'gessolaw20.OctetsOne', WHERE WHAT IT READS IS OF BULK AT MOST 1048576: true; the input reads as it did. -/
def octetsOneUptoRow : OpenClaim := { program := "ytkepmkdnmmofmaa", sum := "0461ee474c127a691ef57dbac334d9fd98ae58c25b11f80e4b42358ab04d3d23", func := "gesso/gessolaw20.OctetsOne", spec := "octetsOne", apart := false, narrowed := true }
def OctetsOneUptoSaid : Prop := octetsOneUptoRow.holds Try.pinned (OpenSpec.upto octetsOneSpec)

/-- 'gessolaw16.KeyOrder', WHERE WHAT IT READS IS OF BULK AT MOST 1048576: true; the input reads as it did. -/
def keyOrderUptoRow : OpenClaim := { program := "ytkepmkdnmmofmaa", sum := "0461ee474c127a691ef57dbac334d9fd98ae58c25b11f80e4b42358ab04d3d23", func := "gesso/gessolaw16.KeyOrder", spec := "keyOrder", unfollowed := true, recurses := true, apart := false, narrowed := true }
def KeyOrderUptoSaid : Prop := keyOrderUptoRow.holds Try.pinned (OpenSpec.upto keyOrderSpec)

end Rows
end Go.Proofs.Ytkepmkdnmmofmaa
