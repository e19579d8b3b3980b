/-
  No cell of these rows narrows 'for every input' (looked for: loops, veiled, ifaces, maps, wideKeys, modest, calm, conditions, laid).
  DERIVED. THE GIVEN ROWS OF THIS SEAT. 10 by the template 'for every input the law returns true; each argument reads behind the call as it read before'; 0 by the template 'total and deterministic' (their statements: YthkoinngmcpjgaaTotals.lean).
  GIVEN WITH THE SEED: the statements are not yours to turn. If you find one false, say at which input.
  Laid BY PROGRAM, IN A SANDBOX (cutbox-rows.mjs): the forced cells as the released guide's own fill.sh prints them over the translation a0e2749f615b6ac3… (all of the seat's roots in one cut). By AI agents, Wed Nov 11 2026. No macro, syntax, notation, axiom, sorry.
-/
import Derived.Test.YthkoinngmcpjgaaChecked
import GoSem.Claim
import GoSem.ClaimJoined
import GoSem.ClaimMapViews
import Derived.JoinedTies
import Derived.KernelRfl
namespace Go.Proofs.Ythkoinngmcpjgaa
/- THE CELL 'sum', in the pinned program and in every row, IS THE sha256 OF THE DUMP (.gsa) THAT YthkoinngmcpjgaaProg.lean LOADS. Nothing in Lean hashes anything: it is a label: what it is worth is what the hold of that sum in a sandbox is worth. -/
noncomputable def Try.pinned : Pinned := { name := "ythkoinngmcpjgaa", sum := "a0e2749f615b6ac3d1e52aff0e4f6e420dc768bcf1d4c0240e32c19df3410782", checked := Try.checked }
namespace Rows
def none {H : Type} : Left H := { results := [], args := [] }

/-- 'gessolaw18.BatchTells': WHATEVER THE INPUT: true; the input reads as it did. -/
def batchTellsSpec : ChangeSpec := { name := "batchTells", fn := fun _ => fun
  | [d1, d2, d3] => { results := [.lit (.bool true)], args := [d1, d2, d3] }
  | _ => none }
def batchTellsRow : OpenClaim := { program := "ythkoinngmcpjgaa", sum := "a0e2749f615b6ac3d1e52aff0e4f6e420dc768bcf1d4c0240e32c19df3410782", func := "gesso/gessolaw18.BatchTells", spec := "batchTells", unfollowed := true, recurses := true, apart := false }
def BatchTellsSaid : Prop := batchTellsRow.holds Try.pinned (OpenSpec.ofChange batchTellsSpec)

/-- ITS FALSE NEIGHBOUR: 'it returns false'. Refute it at one input. -/
def batchTellsWrong : ChangeSpec := { name := "batchTells", fn := fun _ => fun
  | [d1, d2, d3] => { results := [.lit (.bool false)], args := [d1, d2, d3] }
  | _ => none }
def BatchTellsWrongFalsely : Prop := batchTellsRow.holds Try.pinned (OpenSpec.ofChange batchTellsWrong)

/-- 'gessolaw18.BatchMaximal': WHATEVER THE INPUT: true; the input reads as it did. -/
def batchMaximalSpec : ChangeSpec := { name := "batchMaximal", fn := fun _ => fun
  | [d1, d2] => { results := [.lit (.bool true)], args := [d1, d2] }
  | _ => none }
def batchMaximalRow : OpenClaim := { program := "ythkoinngmcpjgaa", sum := "a0e2749f615b6ac3d1e52aff0e4f6e420dc768bcf1d4c0240e32c19df3410782", func := "gesso/gessolaw18.BatchMaximal", spec := "batchMaximal", unfollowed := true, recurses := true, apart := false }
def BatchMaximalSaid : Prop := batchMaximalRow.holds Try.pinned (OpenSpec.ofChange batchMaximalSpec)

/-- ITS FALSE NEIGHBOUR: 'it returns false'. Refute it at one input. -/
def batchMaximalWrong : ChangeSpec := { name := "batchMaximal", fn := fun _ => fun
  | [d1, d2] => { results := [.lit (.bool false)], args := [d1, d2] }
  | _ => none }
def BatchMaximalWrongFalsely : Prop := batchMaximalRow.holds Try.pinned (OpenSpec.ofChange batchMaximalWrong)

/-- 'gessolaw06.PartsTells': WHATEVER THE INPUT: true; the input reads as it did. -/
def partsTellsSpec : ChangeSpec := { name := "partsTells", fn := fun _ => fun
  | [d1, d2, d3] => { results := [.lit (.bool true)], args := [d1, d2, d3] }
  | _ => none }
def partsTellsRow : OpenClaim := { program := "ythkoinngmcpjgaa", sum := "a0e2749f615b6ac3d1e52aff0e4f6e420dc768bcf1d4c0240e32c19df3410782", func := "gesso/gessolaw06.PartsTells", spec := "partsTells", unfollowed := true, recurses := true, apart := false }
def PartsTellsSaid : Prop := partsTellsRow.holds Try.pinned (OpenSpec.ofChange partsTellsSpec)

/-- ITS FALSE NEIGHBOUR: 'it returns false'. Refute it at one input. -/
def partsTellsWrong : ChangeSpec := { name := "partsTells", fn := fun _ => fun
  | [d1, d2, d3] => { results := [.lit (.bool false)], args := [d1, d2, d3] }
  | _ => none }
def PartsTellsWrongFalsely : Prop := partsTellsRow.holds Try.pinned (OpenSpec.ofChange partsTellsWrong)

/-- 'gessolaw06.PartsBits': WHATEVER THE INPUT: true; the input reads as it did. -/
def partsBitsSpec : ChangeSpec := { name := "partsBits", fn := fun _ => fun
  | [d1, d2] => { results := [.lit (.bool true)], args := [d1, d2] }
  | _ => none }
def partsBitsRow : OpenClaim := { program := "ythkoinngmcpjgaa", sum := "a0e2749f615b6ac3d1e52aff0e4f6e420dc768bcf1d4c0240e32c19df3410782", func := "gesso/gessolaw06.PartsBits", spec := "partsBits", unfollowed := true, recurses := true, apart := false }
def PartsBitsSaid : Prop := partsBitsRow.holds Try.pinned (OpenSpec.ofChange partsBitsSpec)

/-- ITS FALSE NEIGHBOUR: 'it returns false'. Refute it at one input. -/
def partsBitsWrong : ChangeSpec := { name := "partsBits", fn := fun _ => fun
  | [d1, d2] => { results := [.lit (.bool false)], args := [d1, d2] }
  | _ => none }
def PartsBitsWrongFalsely : Prop := partsBitsRow.holds Try.pinned (OpenSpec.ofChange partsBitsWrong)

/-- 'gessolaw22.StreamTells': WHATEVER THE INPUT: true; the input reads as it did. -/
def streamTellsSpec : ChangeSpec := { name := "streamTells", fn := fun _ => fun
  | [d1, d2] => { results := [.lit (.bool true)], args := [d1, d2] }
  | _ => none }
def streamTellsRow : OpenClaim := { program := "ythkoinngmcpjgaa", sum := "a0e2749f615b6ac3d1e52aff0e4f6e420dc768bcf1d4c0240e32c19df3410782", func := "gesso/gessolaw22.StreamTells", spec := "streamTells", unfollowed := true, recurses := true, apart := false }
def StreamTellsSaid : Prop := streamTellsRow.holds Try.pinned (OpenSpec.ofChange streamTellsSpec)

/-- ITS FALSE NEIGHBOUR: 'it returns false'. Refute it at one input. -/
def streamTellsWrong : ChangeSpec := { name := "streamTells", fn := fun _ => fun
  | [d1, d2] => { results := [.lit (.bool false)], args := [d1, d2] }
  | _ => none }
def StreamTellsWrongFalsely : Prop := streamTellsRow.holds Try.pinned (OpenSpec.ofChange streamTellsWrong)

/-- 'gessolaw22.StreamBytes': WHATEVER THE INPUT: true; the input reads as it did. -/
def streamBytesSpec : ChangeSpec := { name := "streamBytes", fn := fun _ => fun
  | [d] => { results := [.lit (.bool true)], args := [d] }
  | _ => none }
def streamBytesRow : OpenClaim := { program := "ythkoinngmcpjgaa", sum := "a0e2749f615b6ac3d1e52aff0e4f6e420dc768bcf1d4c0240e32c19df3410782", func := "gesso/gessolaw22.StreamBytes", spec := "streamBytes", unfollowed := true, recurses := true, apart := false }
def StreamBytesSaid : Prop := streamBytesRow.holds Try.pinned (OpenSpec.ofChange streamBytesSpec)

/-- ITS FALSE NEIGHBOUR: 'it returns false'. Refute it at one input. -/
def streamBytesWrong : ChangeSpec := { name := "streamBytes", fn := fun _ => fun
  | [d] => { results := [.lit (.bool false)], args := [d] }
  | _ => none }
def StreamBytesWrongFalsely : Prop := streamBytesRow.holds Try.pinned (OpenSpec.ofChange streamBytesWrong)

/-- 'gessolaw22.StreamSealed': WHATEVER THE INPUT: true; the input reads as it did. -/
def streamSealedSpec : ChangeSpec := { name := "streamSealed", fn := fun _ => fun
  | [d] => { results := [.lit (.bool true)], args := [d] }
  | _ => none }
def streamSealedRow : OpenClaim := { program := "ythkoinngmcpjgaa", sum := "a0e2749f615b6ac3d1e52aff0e4f6e420dc768bcf1d4c0240e32c19df3410782", func := "gesso/gessolaw22.StreamSealed", spec := "streamSealed", unfollowed := true, recurses := true, apart := false }
def StreamSealedSaid : Prop := streamSealedRow.holds Try.pinned (OpenSpec.ofChange streamSealedSpec)

/-- ITS FALSE NEIGHBOUR: 'it returns false'. Refute it at one input. -/
def streamSealedWrong : ChangeSpec := { name := "streamSealed", fn := fun _ => fun
  | [d] => { results := [.lit (.bool false)], args := [d] }
  | _ => none }
def StreamSealedWrongFalsely : Prop := streamSealedRow.holds Try.pinned (OpenSpec.ofChange streamSealedWrong)

/-- 'gessolaw22.StreamBursts': WHATEVER THE INPUT: true; the input reads as it did. -/
def streamBurstsSpec : ChangeSpec := { name := "streamBursts", fn := fun _ => fun
  | [d1, d2, d3] => { results := [.lit (.bool true)], args := [d1, d2, d3] }
  | _ => none }
def streamBurstsRow : OpenClaim := { program := "ythkoinngmcpjgaa", sum := "a0e2749f615b6ac3d1e52aff0e4f6e420dc768bcf1d4c0240e32c19df3410782", func := "gesso/gessolaw22.StreamBursts", spec := "streamBursts", unfollowed := true, recurses := true, apart := false }
def StreamBurstsSaid : Prop := streamBurstsRow.holds Try.pinned (OpenSpec.ofChange streamBurstsSpec)

/-- ITS FALSE NEIGHBOUR: 'it returns false'. Refute it at one input. -/
def streamBurstsWrong : ChangeSpec := { name := "streamBursts", fn := fun _ => fun
  | [d1, d2, d3] => { results := [.lit (.bool false)], args := [d1, d2, d3] }
  | _ => none }
def StreamBurstsWrongFalsely : Prop := streamBurstsRow.holds Try.pinned (OpenSpec.ofChange streamBurstsWrong)

/-- 'gessolaw19.GraphTells': WHATEVER THE INPUT: true; the input reads as it did. -/
def graphTellsSpec : ChangeSpec := { name := "graphTells", fn := fun _ => fun
  | [d1, d2, d3] => { results := [.lit (.bool true)], args := [d1, d2, d3] }
  | _ => none }
def graphTellsRow : OpenClaim := { program := "ythkoinngmcpjgaa", sum := "a0e2749f615b6ac3d1e52aff0e4f6e420dc768bcf1d4c0240e32c19df3410782", func := "gesso/gessolaw19.GraphTells", spec := "graphTells", unfollowed := true, recurses := true, apart := false }
def GraphTellsSaid : Prop := graphTellsRow.holds Try.pinned (OpenSpec.ofChange graphTellsSpec)

/-- ITS FALSE NEIGHBOUR: 'it returns false'. Refute it at one input. -/
def graphTellsWrong : ChangeSpec := { name := "graphTells", fn := fun _ => fun
  | [d1, d2, d3] => { results := [.lit (.bool false)], args := [d1, d2, d3] }
  | _ => none }
def GraphTellsWrongFalsely : Prop := graphTellsRow.holds Try.pinned (OpenSpec.ofChange graphTellsWrong)

/-- 'gessolaw19.GraphWriters': WHATEVER THE INPUT: true; the input reads as it did. -/
def graphWritersSpec : ChangeSpec := { name := "graphWriters", fn := fun _ => fun
  | [d] => { results := [.lit (.bool true)], args := [d] }
  | _ => none }
def graphWritersRow : OpenClaim := { program := "ythkoinngmcpjgaa", sum := "a0e2749f615b6ac3d1e52aff0e4f6e420dc768bcf1d4c0240e32c19df3410782", func := "gesso/gessolaw19.GraphWriters", spec := "graphWriters", unfollowed := true, recurses := true, apart := false }
def GraphWritersSaid : Prop := graphWritersRow.holds Try.pinned (OpenSpec.ofChange graphWritersSpec)

/-- ITS FALSE NEIGHBOUR: 'it returns false'. Refute it at one input. -/
def graphWritersWrong : ChangeSpec := { name := "graphWriters", fn := fun _ => fun
  | [d] => { results := [.lit (.bool false)], args := [d] }
  | _ => none }
def GraphWritersWrongFalsely : Prop := graphWritersRow.holds Try.pinned (OpenSpec.ofChange graphWritersWrong)

/- THE SECOND FORM. 'bulk': how many values and letters a reading holds, each counted each time it is reached (what is shared counts as often as it is met; a slice's spare places count too). A statement '..UptoSaid' is the law's where the arguments, and the package variables that the reading takes, are together of bulk at most 1048576: NARROWER than '..Said'. Prove '..Said' where nothing that the law and all that it calls make is longer than what came in: it says more and counts as full. Else prove '..UptoSaid'. A law counts once. -/
mutual
def uptoBulk {H : Type} : DataW H → Nat
  | .lit (.string bytes) => bytes.length + 1
  | .lit _ => 1
  | .nil => 1
  | .ptr d => uptoBulk d + 1
  | .slice elems spare => uptoBulkAll elems + uptoBulkAll spare + 1
  | .agg parts => uptoBulkAll parts + 1
  | .iface _ d => uptoBulk d + 1
  | .map entries => uptoBulkEntries entries + 1
  | .held _ => 1
def uptoBulkAll {H : Type} : List (DataW H) → Nat
  | [] => 0
  | d :: r => uptoBulk d + uptoBulkAll r
def uptoBulkEntries {H : Type} : List (Lit × DataW H) → Nat
  | [] => 0
  | x :: r => uptoBulkEntry x + uptoBulkEntries r
def uptoBulkEntry {H : Type} : Lit × DataW H → Nat
  | (.string bytes, d) => bytes.length + uptoBulk d + 1
  | (_, d) => uptoBulk d + 1
 end
def uptoSmall : (H : Type) → List (DataW H) → Bool := fun _ ds => decide (uptoBulkAll ds ≤ 1048576)
def OpenSpec.upto (s : _root_.Go.ChangeSpec) : _root_.Go.OpenSpec := { _root_.Go.OpenSpec.ofChange s with cond := some uptoSmall }

/-- 'gessolaw18.BatchTells', WHERE WHAT IT READS IS OF BULK AT MOST 1048576: true; the input reads as it did. -/
def batchTellsUptoRow : OpenClaim := { program := "ythkoinngmcpjgaa", sum := "a0e2749f615b6ac3d1e52aff0e4f6e420dc768bcf1d4c0240e32c19df3410782", func := "gesso/gessolaw18.BatchTells", spec := "batchTells", unfollowed := true, recurses := true, apart := false, narrowed := true }
def BatchTellsUptoSaid : Prop := batchTellsUptoRow.holds Try.pinned (OpenSpec.upto batchTellsSpec)

/-- 'gessolaw18.BatchMaximal', WHERE WHAT IT READS IS OF BULK AT MOST 1048576: true; the input reads as it did. -/
def batchMaximalUptoRow : OpenClaim := { program := "ythkoinngmcpjgaa", sum := "a0e2749f615b6ac3d1e52aff0e4f6e420dc768bcf1d4c0240e32c19df3410782", func := "gesso/gessolaw18.BatchMaximal", spec := "batchMaximal", unfollowed := true, recurses := true, apart := false, narrowed := true }
def BatchMaximalUptoSaid : Prop := batchMaximalUptoRow.holds Try.pinned (OpenSpec.upto batchMaximalSpec)

/-- 'gessolaw06.PartsTells', WHERE WHAT IT READS IS OF BULK AT MOST 1048576: true; the input reads as it did. -/
def partsTellsUptoRow : OpenClaim := { program := "ythkoinngmcpjgaa", sum := "a0e2749f615b6ac3d1e52aff0e4f6e420dc768bcf1d4c0240e32c19df3410782", func := "gesso/gessolaw06.PartsTells", spec := "partsTells", unfollowed := true, recurses := true, apart := false, narrowed := true }
def PartsTellsUptoSaid : Prop := partsTellsUptoRow.holds Try.pinned (OpenSpec.upto partsTellsSpec)

/-- 'gessolaw06.PartsBits', WHERE WHAT IT READS IS OF BULK AT MOST 1048576: true; the input reads as it did. -/
def partsBitsUptoRow : OpenClaim := { program := "ythkoinngmcpjgaa", sum := "a0e2749f615b6ac3d1e52aff0e4f6e420dc768bcf1d4c0240e32c19df3410782", func := "gesso/gessolaw06.PartsBits", spec := "partsBits", unfollowed := true, recurses := true, apart := false, narrowed := true }
def PartsBitsUptoSaid : Prop := partsBitsUptoRow.holds Try.pinned (OpenSpec.upto partsBitsSpec)

/-- 'gessolaw22.StreamTells', WHERE WHAT IT READS IS OF BULK AT MOST 1048576: true; the input reads as it did. -/
def streamTellsUptoRow : OpenClaim := { program := "ythkoinngmcpjgaa", sum := "a0e2749f615b6ac3d1e52aff0e4f6e420dc768bcf1d4c0240e32c19df3410782", func := "gesso/gessolaw22.StreamTells", spec := "streamTells", unfollowed := true, recurses := true, apart := false, narrowed := true }
def StreamTellsUptoSaid : Prop := streamTellsUptoRow.holds Try.pinned (OpenSpec.upto streamTellsSpec)

/-- 'gessolaw22.StreamBytes', WHERE WHAT IT READS IS OF BULK AT MOST 1048576: true; the input reads as it did. -/
def streamBytesUptoRow : OpenClaim := { program := "ythkoinngmcpjgaa", sum := "a0e2749f615b6ac3d1e52aff0e4f6e420dc768bcf1d4c0240e32c19df3410782", func := "gesso/gessolaw22.StreamBytes", spec := "streamBytes", unfollowed := true, recurses := true, apart := false, narrowed := true }
def StreamBytesUptoSaid : Prop := streamBytesUptoRow.holds Try.pinned (OpenSpec.upto streamBytesSpec)

/-- 'gessolaw22.StreamSealed', WHERE WHAT IT READS IS OF BULK AT MOST 1048576: true; the input reads as it did. -/
def streamSealedUptoRow : OpenClaim := { program := "ythkoinngmcpjgaa", sum := "a0e2749f615b6ac3d1e52aff0e4f6e420dc768bcf1d4c0240e32c19df3410782", func := "gesso/gessolaw22.StreamSealed", spec := "streamSealed", unfollowed := true, recurses := true, apart := false, narrowed := true }
def StreamSealedUptoSaid : Prop := streamSealedUptoRow.holds Try.pinned (OpenSpec.upto streamSealedSpec)

/-- 'gessolaw22.StreamBursts', WHERE WHAT IT READS IS OF BULK AT MOST 1048576: true; the input reads as it did. -/
def streamBurstsUptoRow : OpenClaim := { program := "ythkoinngmcpjgaa", sum := "a0e2749f615b6ac3d1e52aff0e4f6e420dc768bcf1d4c0240e32c19df3410782", func := "gesso/gessolaw22.StreamBursts", spec := "streamBursts", unfollowed := true, recurses := true, apart := false, narrowed := true }
def StreamBurstsUptoSaid : Prop := streamBurstsUptoRow.holds Try.pinned (OpenSpec.upto streamBurstsSpec)

/-- 'gessolaw19.GraphTells', WHERE WHAT IT READS IS OF BULK AT MOST 1048576: true; the input reads as it did. -/
def graphTellsUptoRow : OpenClaim := { program := "ythkoinngmcpjgaa", sum := "a0e2749f615b6ac3d1e52aff0e4f6e420dc768bcf1d4c0240e32c19df3410782", func := "gesso/gessolaw19.GraphTells", spec := "graphTells", unfollowed := true, recurses := true, apart := false, narrowed := true }
def GraphTellsUptoSaid : Prop := graphTellsUptoRow.holds Try.pinned (OpenSpec.upto graphTellsSpec)

/-- 'gessolaw19.GraphWriters', WHERE WHAT IT READS IS OF BULK AT MOST 1048576: true; the input reads as it did. -/
def graphWritersUptoRow : OpenClaim := { program := "ythkoinngmcpjgaa", sum := "a0e2749f615b6ac3d1e52aff0e4f6e420dc768bcf1d4c0240e32c19df3410782", func := "gesso/gessolaw19.GraphWriters", spec := "graphWriters", unfollowed := true, recurses := true, apart := false, narrowed := true }
def GraphWritersUptoSaid : Prop := graphWritersUptoRow.holds Try.pinned (OpenSpec.upto graphWritersSpec)

end Rows
end Go.Proofs.Ythkoinngmcpjgaa
