/-
  Views: the live question. Conditions: none.
-/
import Derived.Test.YtmgckodihnmjoaaVwC
set_option linter.unusedVariables false
set_option linter.unusedSimpArgs false
set_option maxRecDepth 20000
namespace Go.Proofs.Ytmgckodihnmjoaa
open Oc
set_option maxRecDepth 100000
noncomputable def fnA : List (Nat × FnI) := (110, I110.impure) :: (69, I69.imps 1 [7, 11]) :: fns
theorem fnA_ok : FnsOk E fnA := FnsOk.cons ok110.impure (FnsOk.cons okR fns_ok)
theorem al14 : Fn E 63 [] (vb true) := by
  refine Fn.of_vc (ok63.plain (some 70)) eqs_ok (csN_ok (un := some 70) fnA_ok eqs_ok (csP_ok PtOk.nil) 24) rfl rfl rfl (.inr (by as_aux_lemma => kernel_rfl)) fun hr => ?_
  refine @vc_of _ (V.d (D.bool true) = vb true) (by as_aux_lemma => kernel_rfl) ?_
  rfl
end Go.Proofs.Ytmgckodihnmjoaa
