/-
  Parts: the live question, whether parts are drawn; the contracts. Conditions: none.
-/
import Derived.Test.YthkoinngmcpjgaaPaI
set_option linter.unusedVariables false
set_option linter.unusedSimpArgs false
set_option maxRecDepth 20000
namespace Go.Proofs.Ythkoinngmcpjgaa
open Oc
set_option maxRecDepth 100000
noncomputable def fnM : List (Nat × FnI) := (77, iLay) :: fnL
theorem fnM_ok : FnsOk E fnM := FnsOk.cons okLay fnL_ok
theorem al6 : Fn E 28 [] (vb true) := by
  refine Fn.of_vc (ok28.plain (some 70)) eqs_ok (csN_ok (un := some 70) fnM_ok eqs_ok (csP_ok PtOk.nil) 24) rfl rfl rfl (.inr (by as_aux_lemma => kernel_rfl)) fun hr => ?_
  refine @vc_of _ (V.d (D.bool true) = vb true) (by as_aux_lemma => kernel_rfl) ?_
  rfl
end Go.Proofs.Ythkoinngmcpjgaa
