/-
  The contracts of the laws of parts. Conditions: none.
-/
import Derived.Test.YthkoinngmcpjgaaPaJ
import Derived.Test.YthkoinngmcpjgaaPaK
set_option linter.unusedVariables false
set_option linter.unusedSimpArgs false
set_option maxRecDepth 20000
namespace Go.Proofs.Ythkoinngmcpjgaa
open Oc
set_option maxRecDepth 100000
noncomputable def ptL6 : List (Nat × (List V → Option (List Ob × V))) := (28, fun xs => match xs with
    | [] => some ([], vb true)
    | _ => none) ::
  (40, fun xs => match xs with
    | [.agg m] => some ([.p (okP m)], vb (drB (pV m) (cV m)))
    | _ => none) ::
  (41, fun xs => match xs with
    | [.agg m] => some ([.p (okP m)], vb (drB (pV m) (cV m)))
    | _ => none) :: ptH
theorem ptL6_ok : PtOk E ptL6 := by
  refine PtOk.cons ok28.en (fun args l r e hl => ?_) (PtOk.cons ok40.en (fun args l r e hl => ?_) (PtOk.cons ok41.en (fun args l r e hl => ?_) (ptH_ok)))
  · split at e
    · cases e; exact al6
    · cases e
  · split at e
    · rename_i m; cases e; have := drawn_r (pV m) (cV m); rw [prt, ← show m = prL (pV m) (cV m) from (obsL_cons hl).1] at this; exact this
    · cases e
  · split at e
    · rename_i m; cases e; have := rdrawn_r (pV m) (cV m); rw [prt, ← show m = prL (pV m) (cV m) from (obsL_cons hl).1] at this; exact this
    · cases e
noncomputable def csL6 : Cs := csN E.tab eqs fnL none (csP ptL6) 10
theorem csL6_ok : CsOk E csL6 := csN_ok fnL_ok eqs_ok (csP_ok ptL6_ok) 10
def pr2 (p : Nat → Int) (c : Bool) (q : Nat → Int) (d : Bool) : V := .agg (prL p c ++ prL q d)
theorem TS.leS {E : Env} {k B : Nat} {c : Code} {s s' : Slots} {h h' : Hp} {Q : Post} (t : TS E k B c s' h' Q) (l : SLe s s') (hn : h.n ≤ h'.n) (hb : BSub h.b h'.b) : TS E k B c s h Q := ⟨T.leS t.t l ⟨hn, hb⟩⟩
end Go.Proofs.Ythkoinngmcpjgaa
