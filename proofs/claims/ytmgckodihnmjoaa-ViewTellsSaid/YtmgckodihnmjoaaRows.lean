/-
  No cell of these rows narrows 'for every input' (looked for: loops, veiled, ifaces, maps, wideKeys, modest, calm, conditions, laid).
  DERIVED. THE GIVEN ROWS OF THIS SEAT. 11 by the template 'for every input the law returns true; each argument reads behind the call as it read before'; 0 by the template 'total and deterministic' (their statements: YtmgckodihnmjoaaTotals.lean).
  GIVEN WITH THE SEED: the statements are not yours to turn. If you find one false, say at which input.
  Laid BY PROGRAM, IN A SANDBOX (cutbox-rows.mjs): the forced cells as the released guide's own fill.sh prints them over the translation 1e9b8f067902f004… (all of the seat's roots in one cut). By AI agents, Wed Nov 11 2026. No macro, syntax, notation, axiom, sorry.
-/
import Derived.Test.YtmgckodihnmjoaaChecked
import GoSem.Claim
import GoSem.ClaimJoined
import GoSem.ClaimMapViews
import Derived.JoinedTies
import Derived.KernelRfl
namespace Go.Proofs.Ytmgckodihnmjoaa
/- THE CELL 'sum', in the pinned program and in every row, IS THE sha256 OF THE DUMP (.gsa) THAT YtmgckodihnmjoaaProg.lean LOADS. Nothing in Lean hashes anything: it is a label: what it is worth is what the hold of that sum in a sandbox is worth. -/
noncomputable def Try.pinned : Pinned := { name := "ytmgckodihnmjoaa", sum := "1e9b8f067902f004d7cb8223d2b66e64dbad544a279a9374a9edab9057993e0b", checked := Try.checked }
namespace Rows
def none {H : Type} : Left H := { results := [], args := [] }

/-- 'gessolaw02.VecOf': WHATEVER THE INPUT: true; the input reads as it did. -/
def vecOfSpec : ChangeSpec := { name := "vecOf", fn := fun _ => fun
  | [d1, d2, d3] => { results := [.lit (.bool true)], args := [d1, d2, d3] }
  | _ => none }
def vecOfRow : OpenClaim := { program := "ytmgckodihnmjoaa", sum := "1e9b8f067902f004d7cb8223d2b66e64dbad544a279a9374a9edab9057993e0b", func := "gesso/gessolaw02.VecOf", spec := "vecOf", unfollowed := true, recurses := true, apart := false }
def VecOfSaid : Prop := vecOfRow.holds Try.pinned (OpenSpec.ofChange vecOfSpec)

/-- ITS FALSE NEIGHBOUR: 'it returns false'. Refute it at one input. -/
def vecOfWrong : ChangeSpec := { name := "vecOf", fn := fun _ => fun
  | [d1, d2, d3] => { results := [.lit (.bool false)], args := [d1, d2, d3] }
  | _ => none }
def VecOfWrongFalsely : Prop := vecOfRow.holds Try.pinned (OpenSpec.ofChange vecOfWrong)

/-- 'gessolaw02.VecPlaces': WHATEVER THE INPUT: true; the input reads as it did. -/
def vecPlacesSpec : ChangeSpec := { name := "vecPlaces", fn := fun _ => fun
  | [d1, d2, d3] => { results := [.lit (.bool true)], args := [d1, d2, d3] }
  | _ => none }
def vecPlacesRow : OpenClaim := { program := "ytmgckodihnmjoaa", sum := "1e9b8f067902f004d7cb8223d2b66e64dbad544a279a9374a9edab9057993e0b", func := "gesso/gessolaw02.VecPlaces", spec := "vecPlaces", unfollowed := true, recurses := true, apart := false }
def VecPlacesSaid : Prop := vecPlacesRow.holds Try.pinned (OpenSpec.ofChange vecPlacesSpec)

/-- ITS FALSE NEIGHBOUR: 'it returns false'. Refute it at one input. -/
def vecPlacesWrong : ChangeSpec := { name := "vecPlaces", fn := fun _ => fun
  | [d1, d2, d3] => { results := [.lit (.bool false)], args := [d1, d2, d3] }
  | _ => none }
def VecPlacesWrongFalsely : Prop := vecPlacesRow.holds Try.pinned (OpenSpec.ofChange vecPlacesWrong)

/-- 'gessolaw02.VecTells': WHATEVER THE INPUT: true; the input reads as it did. -/
def vecTellsSpec : ChangeSpec := { name := "vecTells", fn := fun _ => fun
  | [d1, d2, d3] => { results := [.lit (.bool true)], args := [d1, d2, d3] }
  | _ => none }
def vecTellsRow : OpenClaim := { program := "ytmgckodihnmjoaa", sum := "1e9b8f067902f004d7cb8223d2b66e64dbad544a279a9374a9edab9057993e0b", func := "gesso/gessolaw02.VecTells", spec := "vecTells", unfollowed := true, recurses := true, apart := false }
def VecTellsSaid : Prop := vecTellsRow.holds Try.pinned (OpenSpec.ofChange vecTellsSpec)

/-- ITS FALSE NEIGHBOUR: 'it returns false'. Refute it at one input. -/
def vecTellsWrong : ChangeSpec := { name := "vecTells", fn := fun _ => fun
  | [d1, d2, d3] => { results := [.lit (.bool false)], args := [d1, d2, d3] }
  | _ => none }
def VecTellsWrongFalsely : Prop := vecTellsRow.holds Try.pinned (OpenSpec.ofChange vecTellsWrong)

/-- 'gessolaw03.AffineTells': WHATEVER THE INPUT: true; the input reads as it did. -/
def affineTellsSpec : ChangeSpec := { name := "affineTells", fn := fun _ => fun
  | [d1, d2, d3] => { results := [.lit (.bool true)], args := [d1, d2, d3] }
  | _ => none }
def affineTellsRow : OpenClaim := { program := "ytmgckodihnmjoaa", sum := "1e9b8f067902f004d7cb8223d2b66e64dbad544a279a9374a9edab9057993e0b", func := "gesso/gessolaw03.AffineTells", spec := "affineTells", unfollowed := true, recurses := true, apart := false }
def AffineTellsSaid : Prop := affineTellsRow.holds Try.pinned (OpenSpec.ofChange affineTellsSpec)

/-- ITS FALSE NEIGHBOUR: 'it returns false'. Refute it at one input. -/
def affineTellsWrong : ChangeSpec := { name := "affineTells", fn := fun _ => fun
  | [d1, d2, d3] => { results := [.lit (.bool false)], args := [d1, d2, d3] }
  | _ => none }
def AffineTellsWrongFalsely : Prop := affineTellsRow.holds Try.pinned (OpenSpec.ofChange affineTellsWrong)

/-- 'gessolaw03.AffineMakes': WHATEVER THE INPUT: true; the input reads as it did. -/
def affineMakesSpec : ChangeSpec := { name := "affineMakes", fn := fun _ => fun
  | [d1, d2] => { results := [.lit (.bool true)], args := [d1, d2] }
  | _ => none }
def affineMakesRow : OpenClaim := { program := "ytmgckodihnmjoaa", sum := "1e9b8f067902f004d7cb8223d2b66e64dbad544a279a9374a9edab9057993e0b", func := "gesso/gessolaw03.AffineMakes", spec := "affineMakes", unfollowed := true, recurses := true, apart := false }
def AffineMakesSaid : Prop := affineMakesRow.holds Try.pinned (OpenSpec.ofChange affineMakesSpec)

/-- ITS FALSE NEIGHBOUR: 'it returns false'. Refute it at one input. -/
def affineMakesWrong : ChangeSpec := { name := "affineMakes", fn := fun _ => fun
  | [d1, d2] => { results := [.lit (.bool false)], args := [d1, d2] }
  | _ => none }
def AffineMakesWrongFalsely : Prop := affineMakesRow.holds Try.pinned (OpenSpec.ofChange affineMakesWrong)

/-- 'gessolaw03.AffineNumbers': WHATEVER THE INPUT: true; the input reads as it did. -/
def affineNumbersSpec : ChangeSpec := { name := "affineNumbers", fn := fun _ => fun
  | [d1, d2, d3] => { results := [.lit (.bool true)], args := [d1, d2, d3] }
  | _ => none }
def affineNumbersRow : OpenClaim := { program := "ytmgckodihnmjoaa", sum := "1e9b8f067902f004d7cb8223d2b66e64dbad544a279a9374a9edab9057993e0b", func := "gesso/gessolaw03.AffineNumbers", spec := "affineNumbers", unfollowed := true, recurses := true, apart := false }
def AffineNumbersSaid : Prop := affineNumbersRow.holds Try.pinned (OpenSpec.ofChange affineNumbersSpec)

/-- ITS FALSE NEIGHBOUR: 'it returns false'. Refute it at one input. -/
def affineNumbersWrong : ChangeSpec := { name := "affineNumbers", fn := fun _ => fun
  | [d1, d2, d3] => { results := [.lit (.bool false)], args := [d1, d2, d3] }
  | _ => none }
def AffineNumbersWrongFalsely : Prop := affineNumbersRow.holds Try.pinned (OpenSpec.ofChange affineNumbersWrong)

/-- 'gessolaw04.ShapeTells': WHATEVER THE INPUT: true; the input reads as it did. -/
def shapeTellsSpec : ChangeSpec := { name := "shapeTells", fn := fun _ => fun
  | [d1, d2, d3] => { results := [.lit (.bool true)], args := [d1, d2, d3] }
  | _ => none }
def shapeTellsRow : OpenClaim := { program := "ytmgckodihnmjoaa", sum := "1e9b8f067902f004d7cb8223d2b66e64dbad544a279a9374a9edab9057993e0b", func := "gesso/gessolaw04.ShapeTells", spec := "shapeTells", unfollowed := true, recurses := true, apart := false }
def ShapeTellsSaid : Prop := shapeTellsRow.holds Try.pinned (OpenSpec.ofChange shapeTellsSpec)

/-- ITS FALSE NEIGHBOUR: 'it returns false'. Refute it at one input. -/
def shapeTellsWrong : ChangeSpec := { name := "shapeTells", fn := fun _ => fun
  | [d1, d2, d3] => { results := [.lit (.bool false)], args := [d1, d2, d3] }
  | _ => none }
def ShapeTellsWrongFalsely : Prop := shapeTellsRow.holds Try.pinned (OpenSpec.ofChange shapeTellsWrong)

/-- 'gessolaw04.ShapeInside': WHATEVER THE INPUT: true; the input reads as it did. -/
def shapeInsideSpec : ChangeSpec := { name := "shapeInside", fn := fun _ => fun
  | [d1, d2, d3] => { results := [.lit (.bool true)], args := [d1, d2, d3] }
  | _ => none }
def shapeInsideRow : OpenClaim := { program := "ytmgckodihnmjoaa", sum := "1e9b8f067902f004d7cb8223d2b66e64dbad544a279a9374a9edab9057993e0b", func := "gesso/gessolaw04.ShapeInside", spec := "shapeInside", unfollowed := true, recurses := true, apart := false }
def ShapeInsideSaid : Prop := shapeInsideRow.holds Try.pinned (OpenSpec.ofChange shapeInsideSpec)

/-- ITS FALSE NEIGHBOUR: 'it returns false'. Refute it at one input. -/
def shapeInsideWrong : ChangeSpec := { name := "shapeInside", fn := fun _ => fun
  | [d1, d2, d3] => { results := [.lit (.bool false)], args := [d1, d2, d3] }
  | _ => none }
def ShapeInsideWrongFalsely : Prop := shapeInsideRow.holds Try.pinned (OpenSpec.ofChange shapeInsideWrong)

/-- 'gessolaw14.ViewLeft': WHATEVER THE INPUT: true; the input reads as it did. -/
def viewLeftSpec : ChangeSpec := { name := "viewLeft", fn := fun _ => fun
  | [d1, d2, d3] => { results := [.lit (.bool true)], args := [d1, d2, d3] }
  | _ => none }
def viewLeftRow : OpenClaim := { program := "ytmgckodihnmjoaa", sum := "1e9b8f067902f004d7cb8223d2b66e64dbad544a279a9374a9edab9057993e0b", func := "gesso/gessolaw14.ViewLeft", spec := "viewLeft", unfollowed := true, recurses := true, apart := false }
def ViewLeftSaid : Prop := viewLeftRow.holds Try.pinned (OpenSpec.ofChange viewLeftSpec)

/-- ITS FALSE NEIGHBOUR: 'it returns false'. Refute it at one input. -/
def viewLeftWrong : ChangeSpec := { name := "viewLeft", fn := fun _ => fun
  | [d1, d2, d3] => { results := [.lit (.bool false)], args := [d1, d2, d3] }
  | _ => none }
def ViewLeftWrongFalsely : Prop := viewLeftRow.holds Try.pinned (OpenSpec.ofChange viewLeftWrong)

/-- 'gessolaw14.ViewBox': WHATEVER THE INPUT: true; the input reads as it did. -/
def viewBoxSpec : ChangeSpec := { name := "viewBox", fn := fun _ => fun
  | [d1, d2] => { results := [.lit (.bool true)], args := [d1, d2] }
  | _ => none }
def viewBoxRow : OpenClaim := { program := "ytmgckodihnmjoaa", sum := "1e9b8f067902f004d7cb8223d2b66e64dbad544a279a9374a9edab9057993e0b", func := "gesso/gessolaw14.ViewBox", spec := "viewBox", unfollowed := true, recurses := true, apart := false }
def ViewBoxSaid : Prop := viewBoxRow.holds Try.pinned (OpenSpec.ofChange viewBoxSpec)

/-- ITS FALSE NEIGHBOUR: 'it returns false'. Refute it at one input. -/
def viewBoxWrong : ChangeSpec := { name := "viewBox", fn := fun _ => fun
  | [d1, d2] => { results := [.lit (.bool false)], args := [d1, d2] }
  | _ => none }
def ViewBoxWrongFalsely : Prop := viewBoxRow.holds Try.pinned (OpenSpec.ofChange viewBoxWrong)

/-- 'gessolaw14.ViewTells': WHATEVER THE INPUT: true; the input reads as it did. -/
def viewTellsSpec : ChangeSpec := { name := "viewTells", fn := fun _ => fun
  | [d1, d2, d3] => { results := [.lit (.bool true)], args := [d1, d2, d3] }
  | _ => none }
def viewTellsRow : OpenClaim := { program := "ytmgckodihnmjoaa", sum := "1e9b8f067902f004d7cb8223d2b66e64dbad544a279a9374a9edab9057993e0b", func := "gesso/gessolaw14.ViewTells", spec := "viewTells", unfollowed := true, recurses := true, apart := false }
def ViewTellsSaid : Prop := viewTellsRow.holds Try.pinned (OpenSpec.ofChange viewTellsSpec)

/-- ITS FALSE NEIGHBOUR: 'it returns false'. Refute it at one input. -/
def viewTellsWrong : ChangeSpec := { name := "viewTells", fn := fun _ => fun
  | [d1, d2, d3] => { results := [.lit (.bool false)], args := [d1, d2, d3] }
  | _ => none }
def ViewTellsWrongFalsely : Prop := viewTellsRow.holds Try.pinned (OpenSpec.ofChange viewTellsWrong)

/- THE SECOND FORM. 'bulk': how many values and letters a reading holds, each counted each time it is reached (what is shared counts as often as it is met; a slice's spare places count too). A statement '..UptoSaid' is the law's where the arguments, and the package variables that the reading takes, are together of bulk at most 1048576: NARROWER than '..Said'. Prove '..Said' where nothing that the law and all that it calls make is longer than what came in: it says more and counts as full. Else prove '..UptoSaid'. A law counts once. -/
mutual
def uptoBulk {H : Type} : DataW H → Nat
  | .lit (.string bytes) => bytes.length + 1
  | .lit _ => 1
  | .nil => 1
  | .ptr d => uptoBulk d + 1
  | .slice elems spare => uptoBulkAll elems + uptoBulkAll spare + 1
  | .agg parts => uptoBulkAll parts + 1
  | .iface _ d => uptoBulk d + 1
  | .map entries => uptoBulkEntries entries + 1
  | .held _ => 1
def uptoBulkAll {H : Type} : List (DataW H) → Nat
  | [] => 0
  | d :: r => uptoBulk d + uptoBulkAll r
def uptoBulkEntries {H : Type} : List (Lit × DataW H) → Nat
  | [] => 0
  | x :: r => uptoBulkEntry x + uptoBulkEntries r
def uptoBulkEntry {H : Type} : Lit × DataW H → Nat
  | (.string bytes, d) => bytes.length + uptoBulk d + 1
  | (_, d) => uptoBulk d + 1
 end
def uptoSmall : (H : Type) → List (DataW H) → Bool := fun _ ds => decide (uptoBulkAll ds ≤ 1048576)
def OpenSpec.upto (s : _root_.Go.ChangeSpec) : _root_.Go.OpenSpec := { _root_.Go.OpenSpec.ofChange s with cond := some uptoSmall }

/-- 'gessolaw02.VecOf', WHERE WHAT IT READS IS OF BULK AT MOST 1048576: true; the input reads as it did. -/
def vecOfUptoRow : OpenClaim := { program := "ytmgckodihnmjoaa", sum := "1e9b8f067902f004d7cb8223d2b66e64dbad544a279a9374a9edab9057993e0b", func := "gesso/gessolaw02.VecOf", spec := "vecOf", unfollowed := true, recurses := true, apart := false, narrowed := true }
def VecOfUptoSaid : Prop := vecOfUptoRow.holds Try.pinned (OpenSpec.upto vecOfSpec)

/-- 'gessolaw02.VecPlaces', WHERE WHAT IT READS IS OF BULK AT MOST 1048576: true; the input reads as it did. -/
def vecPlacesUptoRow : OpenClaim := { program := "ytmgckodihnmjoaa", sum := "1e9b8f067902f004d7cb8223d2b66e64dbad544a279a9374a9edab9057993e0b", func := "gesso/gessolaw02.VecPlaces", spec := "vecPlaces", unfollowed := true, recurses := true, apart := false, narrowed := true }
def VecPlacesUptoSaid : Prop := vecPlacesUptoRow.holds Try.pinned (OpenSpec.upto vecPlacesSpec)

/-- 'gessolaw02.VecTells', WHERE WHAT IT READS IS OF BULK AT MOST 1048576: true; the input reads as it did. -/
def vecTellsUptoRow : OpenClaim := { program := "ytmgckodihnmjoaa", sum := "1e9b8f067902f004d7cb8223d2b66e64dbad544a279a9374a9edab9057993e0b", func := "gesso/gessolaw02.VecTells", spec := "vecTells", unfollowed := true, recurses := true, apart := false, narrowed := true }
def VecTellsUptoSaid : Prop := vecTellsUptoRow.holds Try.pinned (OpenSpec.upto vecTellsSpec)

/-- 'gessolaw03.AffineTells', WHERE WHAT IT READS IS OF BULK AT MOST 1048576: true; the input reads as it did. -/
def affineTellsUptoRow : OpenClaim := { program := "ytmgckodihnmjoaa", sum := "1e9b8f067902f004d7cb8223d2b66e64dbad544a279a9374a9edab9057993e0b", func := "gesso/gessolaw03.AffineTells", spec := "affineTells", unfollowed := true, recurses := true, apart := false, narrowed := true }
def AffineTellsUptoSaid : Prop := affineTellsUptoRow.holds Try.pinned (OpenSpec.upto affineTellsSpec)

/-- 'gessolaw03.AffineMakes', WHERE WHAT IT READS IS OF BULK AT MOST 1048576: true; the input reads as it did. -/
def affineMakesUptoRow : OpenClaim := { program := "ytmgckodihnmjoaa", sum := "1e9b8f067902f004d7cb8223d2b66e64dbad544a279a9374a9edab9057993e0b", func := "gesso/gessolaw03.AffineMakes", spec := "affineMakes", unfollowed := true, recurses := true, apart := false, narrowed := true }
def AffineMakesUptoSaid : Prop := affineMakesUptoRow.holds Try.pinned (OpenSpec.upto affineMakesSpec)

/-- 'gessolaw03.AffineNumbers', WHERE WHAT IT READS IS OF BULK AT MOST 1048576: true; the input reads as it did. -/
def affineNumbersUptoRow : OpenClaim := { program := "ytmgckodihnmjoaa", sum := "1e9b8f067902f004d7cb8223d2b66e64dbad544a279a9374a9edab9057993e0b", func := "gesso/gessolaw03.AffineNumbers", spec := "affineNumbers", unfollowed := true, recurses := true, apart := false, narrowed := true }
def AffineNumbersUptoSaid : Prop := affineNumbersUptoRow.holds Try.pinned (OpenSpec.upto affineNumbersSpec)

/-- 'gessolaw04.ShapeTells', WHERE WHAT IT READS IS OF BULK AT MOST 1048576: true; the input reads as it did. -/
def shapeTellsUptoRow : OpenClaim := { program := "ytmgckodihnmjoaa", sum := "1e9b8f067902f004d7cb8223d2b66e64dbad544a279a9374a9edab9057993e0b", func := "gesso/gessolaw04.ShapeTells", spec := "shapeTells", unfollowed := true, recurses := true, apart := false, narrowed := true }
def ShapeTellsUptoSaid : Prop := shapeTellsUptoRow.holds Try.pinned (OpenSpec.upto shapeTellsSpec)

/-- 'gessolaw04.ShapeInside', WHERE WHAT IT READS IS OF BULK AT MOST 1048576: true; the input reads as it did. -/
def shapeInsideUptoRow : OpenClaim := { program := "ytmgckodihnmjoaa", sum := "1e9b8f067902f004d7cb8223d2b66e64dbad544a279a9374a9edab9057993e0b", func := "gesso/gessolaw04.ShapeInside", spec := "shapeInside", unfollowed := true, recurses := true, apart := false, narrowed := true }
def ShapeInsideUptoSaid : Prop := shapeInsideUptoRow.holds Try.pinned (OpenSpec.upto shapeInsideSpec)

/-- 'gessolaw14.ViewLeft', WHERE WHAT IT READS IS OF BULK AT MOST 1048576: true; the input reads as it did. -/
def viewLeftUptoRow : OpenClaim := { program := "ytmgckodihnmjoaa", sum := "1e9b8f067902f004d7cb8223d2b66e64dbad544a279a9374a9edab9057993e0b", func := "gesso/gessolaw14.ViewLeft", spec := "viewLeft", unfollowed := true, recurses := true, apart := false, narrowed := true }
def ViewLeftUptoSaid : Prop := viewLeftUptoRow.holds Try.pinned (OpenSpec.upto viewLeftSpec)

/-- 'gessolaw14.ViewBox', WHERE WHAT IT READS IS OF BULK AT MOST 1048576: true; the input reads as it did. -/
def viewBoxUptoRow : OpenClaim := { program := "ytmgckodihnmjoaa", sum := "1e9b8f067902f004d7cb8223d2b66e64dbad544a279a9374a9edab9057993e0b", func := "gesso/gessolaw14.ViewBox", spec := "viewBox", unfollowed := true, recurses := true, apart := false, narrowed := true }
def ViewBoxUptoSaid : Prop := viewBoxUptoRow.holds Try.pinned (OpenSpec.upto viewBoxSpec)

/-- 'gessolaw14.ViewTells', WHERE WHAT IT READS IS OF BULK AT MOST 1048576: true; the input reads as it did. -/
def viewTellsUptoRow : OpenClaim := { program := "ytmgckodihnmjoaa", sum := "1e9b8f067902f004d7cb8223d2b66e64dbad544a279a9374a9edab9057993e0b", func := "gesso/gessolaw14.ViewTells", spec := "viewTells", unfollowed := true, recurses := true, apart := false, narrowed := true }
def ViewTellsUptoSaid : Prop := viewTellsUptoRow.holds Try.pinned (OpenSpec.upto viewTellsSpec)

end Rows
end Go.Proofs.Ytmgckodihnmjoaa
