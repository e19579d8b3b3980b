/-
  No cell of these rows narrows 'for every input' (looked for: loops, veiled, ifaces, maps, wideKeys, modest, calm, conditions, laid).
  DERIVED. THE GIVEN ROWS OF THIS SEAT. 5 by the template 'for every input the law returns true; each argument reads behind the call as it read before'; 0 by the template 'total and deterministic' (their statements: YtacfcfllbadhcaaTotals.lean).
  GIVEN WITH THE SEED: the statements are not yours to turn. If you find one false, say at which input.
  Laid BY PROGRAM, IN A SANDBOX (cutbox-rows.mjs): the forced cells as the released guide's own fill.sh prints them over the translation b9562b3204e297e1… (all of the seat's roots in one cut). By AI agents, Wed Nov 11 2026. No macro, syntax, notation, axiom, sorry.
-/
import Derived.Test.YtacfcfllbadhcaaChecked
import GoSem.Claim
import GoSem.ClaimJoined
import GoSem.ClaimMapViews
import Derived.JoinedTies
import Derived.KernelRfl
namespace Go.Proofs.Ytacfcfllbadhcaa
/- THE CELL 'sum', in the pinned program and in every row, IS THE sha256 OF THE DUMP (.gsa) THAT YtacfcfllbadhcaaProg.lean LOADS. Nothing in Lean hashes anything: it is a label: what it is worth is what the hold of that sum in a sandbox is worth. -/
noncomputable def Try.pinned : Pinned := { name := "ytacfcfllbadhcaa", sum := "b9562b3204e297e1dfcf20f2d4b3eb6011970a50b1d0df2deafbb00c7f33df10", checked := Try.checked }
namespace Rows
def none {H : Type} : Left H := { results := [], args := [] }

/-- 'gessolaw05.PoolPlays': WHATEVER THE INPUT: true; the input reads as it did. -/
def poolPlaysSpec : ChangeSpec := { name := "poolPlays", fn := fun _ => fun
  | [d1, d2, d3] => { results := [.lit (.bool true)], args := [d1, d2, d3] }
  | _ => none }
def poolPlaysRow : OpenClaim := { program := "ytacfcfllbadhcaa", sum := "b9562b3204e297e1dfcf20f2d4b3eb6011970a50b1d0df2deafbb00c7f33df10", func := "gesso/gessolaw05.PoolPlays", spec := "poolPlays", apart := false }
def PoolPlaysSaid : Prop := poolPlaysRow.holds Try.pinned (OpenSpec.ofChange poolPlaysSpec)

/-- ITS FALSE NEIGHBOUR: 'it returns false'. Refute it at one input. -/
def poolPlaysWrong : ChangeSpec := { name := "poolPlays", fn := fun _ => fun
  | [d1, d2, d3] => { results := [.lit (.bool false)], args := [d1, d2, d3] }
  | _ => none }
def PoolPlaysWrongFalsely : Prop := poolPlaysRow.holds Try.pinned (OpenSpec.ofChange poolPlaysWrong)

/-- 'gessolaw05.PoolOnce': WHATEVER THE INPUT: true; the input reads as it did. -/
def poolOnceSpec : ChangeSpec := { name := "poolOnce", fn := fun _ => fun
  | [d1, d2] => { results := [.lit (.bool true)], args := [d1, d2] }
  | _ => none }
def poolOnceRow : OpenClaim := { program := "ytacfcfllbadhcaa", sum := "b9562b3204e297e1dfcf20f2d4b3eb6011970a50b1d0df2deafbb00c7f33df10", func := "gesso/gessolaw05.PoolOnce", spec := "poolOnce", apart := false }
def PoolOnceSaid : Prop := poolOnceRow.holds Try.pinned (OpenSpec.ofChange poolOnceSpec)

/-- ITS FALSE NEIGHBOUR: 'it returns false'. Refute it at one input. -/
def poolOnceWrong : ChangeSpec := { name := "poolOnce", fn := fun _ => fun
  | [d1, d2] => { results := [.lit (.bool false)], args := [d1, d2] }
  | _ => none }
def PoolOnceWrongFalsely : Prop := poolOnceRow.holds Try.pinned (OpenSpec.ofChange poolOnceWrong)

/-- 'gessolaw07.TableSet': WHATEVER THE INPUT: true; the input reads as it did. -/
def tableSetSpec : ChangeSpec := { name := "tableSet", fn := fun _ => fun
  | [d1, d2] => { results := [.lit (.bool true)], args := [d1, d2] }
  | _ => none }
def tableSetRow : OpenClaim := { program := "ytacfcfllbadhcaa", sum := "b9562b3204e297e1dfcf20f2d4b3eb6011970a50b1d0df2deafbb00c7f33df10", func := "gesso/gessolaw07.TableSet", spec := "tableSet", unfollowed := true, recurses := true, apart := false }
def TableSetSaid : Prop := tableSetRow.holds Try.pinned (OpenSpec.ofChange tableSetSpec)

/-- ITS FALSE NEIGHBOUR: 'it returns false'. Refute it at one input. -/
def tableSetWrong : ChangeSpec := { name := "tableSet", fn := fun _ => fun
  | [d1, d2] => { results := [.lit (.bool false)], args := [d1, d2] }
  | _ => none }
def TableSetWrongFalsely : Prop := tableSetRow.holds Try.pinned (OpenSpec.ofChange tableSetWrong)

/-- 'gessolaw09.ForestPlays': WHATEVER THE INPUT: true; the input reads as it did. -/
def forestPlaysSpec : ChangeSpec := { name := "forestPlays", fn := fun _ => fun
  | [d1, d2, d3] => { results := [.lit (.bool true)], args := [d1, d2, d3] }
  | _ => none }
def forestPlaysRow : OpenClaim := { program := "ytacfcfllbadhcaa", sum := "b9562b3204e297e1dfcf20f2d4b3eb6011970a50b1d0df2deafbb00c7f33df10", func := "gesso/gessolaw09.ForestPlays", spec := "forestPlays", inPlace := ["slices.overlaps[gesso/api.ID]"], unfollowed := true, recurses := true, apart := false }
def ForestPlaysSaid : Prop := forestPlaysRow.holds Try.pinned (OpenSpec.ofChange forestPlaysSpec)

/-- ITS FALSE NEIGHBOUR: 'it returns false'. Refute it at one input. -/
def forestPlaysWrong : ChangeSpec := { name := "forestPlays", fn := fun _ => fun
  | [d1, d2, d3] => { results := [.lit (.bool false)], args := [d1, d2, d3] }
  | _ => none }
def ForestPlaysWrongFalsely : Prop := forestPlaysRow.holds Try.pinned (OpenSpec.ofChange forestPlaysWrong)

/-- 'gessolaw09.ForestRing': WHATEVER THE INPUT: true; the input reads as it did. -/
def forestRingSpec : ChangeSpec := { name := "forestRing", fn := fun _ => fun
  | [d1, d2] => { results := [.lit (.bool true)], args := [d1, d2] }
  | _ => none }
def forestRingRow : OpenClaim := { program := "ytacfcfllbadhcaa", sum := "b9562b3204e297e1dfcf20f2d4b3eb6011970a50b1d0df2deafbb00c7f33df10", func := "gesso/gessolaw09.ForestRing", spec := "forestRing", inPlace := ["slices.overlaps[gesso/api.ID]"], unfollowed := true, recurses := true, apart := false }
def ForestRingSaid : Prop := forestRingRow.holds Try.pinned (OpenSpec.ofChange forestRingSpec)

/-- ITS FALSE NEIGHBOUR: 'it returns false'. Refute it at one input. -/
def forestRingWrong : ChangeSpec := { name := "forestRing", fn := fun _ => fun
  | [d1, d2] => { results := [.lit (.bool false)], args := [d1, d2] }
  | _ => none }
def ForestRingWrongFalsely : Prop := forestRingRow.holds Try.pinned (OpenSpec.ofChange forestRingWrong)

/- THE SECOND FORM. 'bulk': how many values and letters a reading holds, each counted each time it is reached (what is shared counts as often as it is met; a slice's spare places count too). A statement '..UptoSaid' is the law's where the arguments, and the package variables that the reading takes, are together of bulk at most 1048576: NARROWER than '..Said'. Prove '..Said' where nothing that the law and all that it calls make is longer than what came in: it says more and counts as full. Else prove '..UptoSaid'. A law counts once. -/
mutual
def uptoBulk {H : Type} : DataW H → Nat
  | .lit (.string bytes) => bytes.length + 1
  | .lit _ => 1
  | .nil => 1
  | .ptr d => uptoBulk d + 1
  | .slice elems spare => uptoBulkAll elems + uptoBulkAll spare + 1
  | .agg parts => uptoBulkAll parts + 1
  | .iface _ d => uptoBulk d + 1
  | .map entries => uptoBulkEntries entries + 1
  | .held _ => 1
def uptoBulkAll {H : Type} : List (DataW H) → Nat
  | [] => 0
  | d :: r => uptoBulk d + uptoBulkAll r
def uptoBulkEntries {H : Type} : List (Lit × DataW H) → Nat
  | [] => 0
  | x :: r => uptoBulkEntry x + uptoBulkEntries r
def uptoBulkEntry {H : Type} : Lit × DataW H → Nat
  | (.string bytes, d) => bytes.length + uptoBulk d + 1
  | (_, d) => uptoBulk d + 1
 end
def uptoSmall : (H : Type) → List (DataW H) → Bool := fun _ ds => decide (uptoBulkAll ds ≤ 1048576)
def OpenSpec.upto (s : _root_.Go.ChangeSpec) : _root_.Go.OpenSpec := { _root_.Go.OpenSpec.ofChange s with cond := some uptoSmall }

/-- 'gessolaw05.PoolPlays', WHERE WHAT IT READS IS OF BULK AT MOST 1048576: true; the input reads as it did. -/
def poolPlaysUptoRow : OpenClaim := { program := "ytacfcfllbadhcaa", sum := "b9562b3204e297e1dfcf20f2d4b3eb6011970a50b1d0df2deafbb00c7f33df10", func := "gesso/gessolaw05.PoolPlays", spec := "poolPlays", apart := false, narrowed := true }
def PoolPlaysUptoSaid : Prop := poolPlaysUptoRow.holds Try.pinned (OpenSpec.upto poolPlaysSpec)

/-- 'gessolaw05.PoolOnce', WHERE WHAT IT READS IS OF BULK AT MOST 1048576: true; the input reads as it did. -/
def poolOnceUptoRow : OpenClaim := { program := "ytacfcfllbadhcaa", sum := "b9562b3204e297e1dfcf20f2d4b3eb6011970a50b1d0df2deafbb00c7f33df10", func := "gesso/gessolaw05.PoolOnce", spec := "poolOnce", apart := false, narrowed := true }
def PoolOnceUptoSaid : Prop := poolOnceUptoRow.holds Try.pinned (OpenSpec.upto poolOnceSpec)

/-- 'gessolaw07.TableSet', WHERE WHAT IT READS IS OF BULK AT MOST 1048576: true; the input reads as it did. -/
def tableSetUptoRow : OpenClaim := { program := "ytacfcfllbadhcaa", sum := "b9562b3204e297e1dfcf20f2d4b3eb6011970a50b1d0df2deafbb00c7f33df10", func := "gesso/gessolaw07.TableSet", spec := "tableSet", unfollowed := true, recurses := true, apart := false, narrowed := true }
def TableSetUptoSaid : Prop := tableSetUptoRow.holds Try.pinned (OpenSpec.upto tableSetSpec)

/-- 'gessolaw09.ForestPlays', WHERE WHAT IT READS IS OF BULK AT MOST 1048576: true; the input reads as it did. -/
def forestPlaysUptoRow : OpenClaim := { program := "ytacfcfllbadhcaa", sum := "b9562b3204e297e1dfcf20f2d4b3eb6011970a50b1d0df2deafbb00c7f33df10", func := "gesso/gessolaw09.ForestPlays", spec := "forestPlays", inPlace := ["slices.overlaps[gesso/api.ID]"], unfollowed := true, recurses := true, apart := false, narrowed := true }
def ForestPlaysUptoSaid : Prop := forestPlaysUptoRow.holds Try.pinned (OpenSpec.upto forestPlaysSpec)

/-- 'gessolaw09.ForestRing', WHERE WHAT IT READS IS OF BULK AT MOST 1048576: true; the input reads as it did. -/
def forestRingUptoRow : OpenClaim := { program := "ytacfcfllbadhcaa", sum := "b9562b3204e297e1dfcf20f2d4b3eb6011970a50b1d0df2deafbb00c7f33df10", func := "gesso/gessolaw09.ForestRing", spec := "forestRing", inPlace := ["slices.overlaps[gesso/api.ID]"], unfollowed := true, recurses := true, apart := false, narrowed := true }
def ForestRingUptoSaid : Prop := forestRingUptoRow.holds Try.pinned (OpenSpec.upto forestRingSpec)

end Rows
end Go.Proofs.Ytacfcfllbadhcaa
