/-
  Boxes carried, their spans, and distances, in the document's words: the same. Conditions: none.
-/
import Derived.Test.YtmgckodihnmjoaaShE
import Derived.Test.YtmgckodihnmjoaaShC
set_option linter.unusedVariables false
set_option linter.unusedSimpArgs false
set_option maxRecDepth 20000
namespace Go.Proofs.Ytmgckodihnmjoaa
open Oc
set_option maxRecDepth 100000
noncomputable def bxP (k : Int → Int → Int → Int → Int → Int → Bool) : List V → Option (List Ob × V) := fun xs => match xs with
  | [.agg [.d (.int .i64 a), .d (.int .i64 b), .d (.int .i64 c), .d (.int .i64 x), .d (.int .i64 y), .d (.int .i64 z)]] => some ([], vb (k a b c x y z))
  | _ => none
noncomputable def p4P (k : Int → Int → Int → Int → Bool) : List V → Option (List Ob × V) := fun xs => match xs with
  | [.agg [.d (.int .i64 a), .d (.int .i64 b), .d (.int .i64 c), .d (.int .i64 d)]] => some ([], vb (k a b c d))
  | _ => none
noncomputable def ptH : List (Nat × (List V → Option (List Ob × V))) := (49, bxP bxR) :: (54, p4P plR) :: (60, inP) :: (107, enP) :: (24, dotP) :: ptG0
theorem ptH_ok : PtOk E ptH := by
  refine PtOk.cons ok49.en (fun args l r e hl => ?_) (PtOk.cons ok54.en (fun args l r e hl => ?_) (PtOk.cons ok60.en (fun args l r e hl => ?_) (PtOk.cons ok107.en (enP_ok rends_fn) (PtOk.cons ok24.en (fun args l r e hl => ?_) ptG0_ok))))
  · unfold bxP at e; split at e
    · cases e; exact rright_fn ..
    · cases e
  · unfold p4P at e; split at e
    · cases e; exact rplane_fn ..
    · cases e
  · unfold inP at e; split at e
    · cases e; exact rin_fn ..
    · cases e
  · unfold dotP at e; split at e
    · cases e; exact rdot_fn ..
    · cases e
noncomputable def csW : Cs := csN E.tab eqs fnS none (csP ptH) 10
theorem csW_ok : CsOk E csW := csN_ok fnS_ok eqs_ok (csP_ok ptH_ok) 10
theorem rcarry_fn (f : Nat → Int) (a b c x y z : Int) : Fn E 56 [mt f, bx a b c x y z] (.tup [bx (caL f a b c x y z 0) (caL f a b c x y z 1) (caL f a b c x y z 2) (caH f a b c x y z 0) (caH f a b c x y z 1) (caH f a b c x y z 2), vi (caE f a b c x y z)]) := by
  refine Fn.of_vc ok56 eqs_ok csW_ok rfl rfl rfl (by first | exact .inl (by as_aux_lemma => kernel_rfl) | exact .inr (by as_aux_lemma => kernel_rfl)) fun hr => ?_
  refine @vc_of _ (bif bif !rightL [f (0 : Nat), f (1 : Nat), f (2 : Nat), f (3 : Nat), f (4 : Nat), f (5 : Nat), f (6 : Nat), f (7 : Nat), f (8 : Nat), f (9 : Nat), f (10 : Nat), f (11 : Nat)] then true else !bxR a b c x y z then V.tup [V.agg [V.d (D.int IntKind.i64 (0 : Int)), V.d (D.int IntKind.i64 (0 : Int)), V.d (D.int IntKind.i64 (0 : Int)), V.d (D.int IntKind.i64 (0 : Int)), V.d (D.int IntKind.i64 (0 : Int)), V.d (D.int IntKind.i64 (0 : Int))], V.d (D.int IntKind.i64 (1 : Int))] = V.tup [bx (caL f a b c x y z (0 : Nat)) (caL f a b c x y z (1 : Nat)) (caL f a b c x y z (2 : Nat)) (caH f a b c x y z (0 : Nat)) (caH f a b c x y z (1 : Nat)) (caH f a b c x y z (2 : Nat)), vi (caE f a b c x y z)] else bif !decide (enE (f (0 : Nat)) (f (1 : Nat)) (f (2 : Nat)) (f (3 : Nat)) a b c x y z = (0 : Int)) then V.tup [V.agg [V.d (D.int IntKind.i64 (0 : Int)), V.d (D.int IntKind.i64 (0 : Int)), V.d (D.int IntKind.i64 (0 : Int)), V.d (D.int IntKind.i64 (0 : Int)), V.d (D.int IntKind.i64 (0 : Int)), V.d (D.int IntKind.i64 (0 : Int))], V.d (D.int IntKind.i64 (enE (f (0 : Nat)) (f (1 : Nat)) (f (2 : Nat)) (f (3 : Nat)) a b c x y z))] = V.tup [bx (caL f a b c x y z (0 : Nat)) (caL f a b c x y z (1 : Nat)) (caL f a b c x y z (2 : Nat)) (caH f a b c x y z (0 : Nat)) (caH f a b c x y z (1 : Nat)) (caH f a b c x y z (2 : Nat)), vi (caE f a b c x y z)] else bif !decide (enE (f (4 : Nat)) (f (5 : Nat)) (f (6 : Nat)) (f (7 : Nat)) a b c x y z = (0 : Int)) then V.tup [V.agg [V.d (D.int IntKind.i64 (0 : Int)), V.d (D.int IntKind.i64 (0 : Int)), V.d (D.int IntKind.i64 (0 : Int)), V.d (D.int IntKind.i64 (0 : Int)), V.d (D.int IntKind.i64 (0 : Int)), V.d (D.int IntKind.i64 (0 : Int))], V.d (D.int IntKind.i64 (enE (f (4 : Nat)) (f (5 : Nat)) (f (6 : Nat)) (f (7 : Nat)) a b c x y z))] = V.tup [bx (caL f a b c x y z (0 : Nat)) (caL f a b c x y z (1 : Nat)) (caL f a b c x y z (2 : Nat)) (caH f a b c x y z (0 : Nat)) (caH f a b c x y z (1 : Nat)) (caH f a b c x y z (2 : Nat)), vi (caE f a b c x y z)] else bif !decide (enE (f (8 : Nat)) (f (9 : Nat)) (f (10 : Nat)) (f (11 : Nat)) a b c x y z = (0 : Int)) then V.tup [V.agg [V.d (D.int IntKind.i64 (0 : Int)), V.d (D.int IntKind.i64 (0 : Int)), V.d (D.int IntKind.i64 (0 : Int)), V.d (D.int IntKind.i64 (0 : Int)), V.d (D.int IntKind.i64 (0 : Int)), V.d (D.int IntKind.i64 (0 : Int))], V.d (D.int IntKind.i64 (enE (f (8 : Nat)) (f (9 : Nat)) (f (10 : Nat)) (f (11 : Nat)) a b c x y z))] = V.tup [bx (caL f a b c x y z (0 : Nat)) (caL f a b c x y z (1 : Nat)) (caL f a b c x y z (2 : Nat)) (caH f a b c x y z (0 : Nat)) (caH f a b c x y z (1 : Nat)) (caH f a b c x y z (2 : Nat)), vi (caE f a b c x y z)] else V.tup [V.agg [V.d (D.int IntKind.i64 (enL (f (0 : Nat)) (f (1 : Nat)) (f (2 : Nat)) (f (3 : Nat)) a b c x y z)), V.d (D.int IntKind.i64 (enL (f (4 : Nat)) (f (5 : Nat)) (f (6 : Nat)) (f (7 : Nat)) a b c x y z)), V.d (D.int IntKind.i64 (enL (f (8 : Nat)) (f (9 : Nat)) (f (10 : Nat)) (f (11 : Nat)) a b c x y z)), V.d (D.int IntKind.i64 (enH (f (0 : Nat)) (f (1 : Nat)) (f (2 : Nat)) (f (3 : Nat)) a b c x y z)), V.d (D.int IntKind.i64 (enH (f (4 : Nat)) (f (5 : Nat)) (f (6 : Nat)) (f (7 : Nat)) a b c x y z)), V.d (D.int IntKind.i64 (enH (f (8 : Nat)) (f (9 : Nat)) (f (10 : Nat)) (f (11 : Nat)) a b c x y z))], V.d (D.int IntKind.i64 (0 : Int))] = V.tup [bx (caL f a b c x y z (0 : Nat)) (caL f a b c x y z (1 : Nat)) (caL f a b c x y z (2 : Nat)) (caH f a b c x y z (0 : Nat)) (caH f a b c x y z (1 : Nat)) (caH f a b c x y z (2 : Nat)), vi (caE f a b c x y z)]) (by as_aux_lemma => kernel_rfl) ?_
  try simp only [idx1, idx2, tt_, Bool.not_not, true_and, and_true, Bool.cond_self]
  have c0 : enE (f 0) (f 1) (f 2) (f 3) a b c x y z = caR f a b c x y z 0 := rfl
  have c1 : enE (f 4) (f 5) (f 6) (f 7) a b c x y z = caR f a b c x y z 1 := rfl
  have c2 : enE (f 8) (f 9) (f 10) (f 11) a b c x y z = caR f a b c x y z 2 := rfl
  have c3 : (bif !rightL [f 0, f 1, f 2, f 3, f 4, f 5, f 6, f 7, f 8, f 9, f 10, f 11] then true else !bxR a b c x y z) = caG f a b c x y z := rfl
  simp only [c0, c1, c2, c3]
  unfold caL caH caV caE
  generalize caG f a b c x y z = G
  generalize caR f a b c x y z 0 = p0
  generalize caR f a b c x y z 1 = p1
  generalize caR f a b c x y z 2 = p2
  cases G
  · by_cases q0 : p0 = 0
    · by_cases q1 : p1 = 0
      · by_cases q2 : p2 = 0
        · simp only [q0, q1, q2, decide_true, Bool.not_true, cond_false, cond_true]; rfl
        · simp only [q0, q1, q2, decide_true, decide_false, Bool.not_true, Bool.not_false, cond_false, cond_true]; rfl
      · simp only [q0, q1, decide_true, decide_false, Bool.not_true, Bool.not_false, cond_false, cond_true]; rfl
    · simp only [q0, decide_true, decide_false, Bool.not_true, Bool.not_false, cond_false, cond_true]; rfl
  · rfl
theorem rspan_fn (n0 n1 n2 d a b c x y z : Int) : Fn E 58 [pl n0 n1 n2 d, bx a b c x y z] (.tup [vi (spL n0 n1 n2 d a b c x y z), vi (spH n0 n1 n2 d a b c x y z), vi (spE n0 n1 n2 d a b c x y z)]) := by
  refine Fn.of_vc ok58 eqs_ok csW_ok rfl rfl rfl (by first | exact .inl (by as_aux_lemma => kernel_rfl) | exact .inr (by as_aux_lemma => kernel_rfl)) fun hr => ?_
  refine @vc_of _ (bif bif !plR n0 n1 n2 d then true else !bxR a b c x y z then V.tup [V.d (D.int IntKind.i64 (0 : Int)), V.d (D.int IntKind.i64 (0 : Int)), V.d (D.int IntKind.i64 (1 : Int))] = V.tup [vi (spL n0 n1 n2 d a b c x y z), vi (spH n0 n1 n2 d a b c x y z), vi (spE n0 n1 n2 d a b c x y z)] else V.tup [V.d (D.int IntKind.i64 (enL n0 n1 n2 d a b c x y z)), V.d (D.int IntKind.i64 (enH n0 n1 n2 d a b c x y z)), V.d (D.int IntKind.i64 (enE n0 n1 n2 d a b c x y z))] = V.tup [vi (spL n0 n1 n2 d a b c x y z), vi (spH n0 n1 n2 d a b c x y z), vi (spE n0 n1 n2 d a b c x y z)]) (by as_aux_lemma => kernel_rfl) ?_
  try simp only [idx1, idx2, tt_, Bool.not_not, true_and, and_true, Bool.cond_self]
  have c3 : (bif !plR n0 n1 n2 d then true else !bxR a b c x y z) = spG n0 n1 n2 d a b c x y z := rfl
  simp only [c3]
  unfold spL spH spE
  cases spG n0 n1 n2 d a b c x y z <;> rfl
theorem rdist_fn (n0 n1 n2 d u v w : Int) : Fn E 62 [pl n0 n1 n2 d, l3 u v w] (.tup [vi (diV n0 n1 n2 d u v w), vi (diE n0 n1 n2 d u v w)]) := by
  refine Fn.of_vc ok62 eqs_ok csW_ok rfl rfl rfl (by first | exact .inl (by as_aux_lemma => kernel_rfl) | exact .inr (by as_aux_lemma => kernel_rfl)) fun hr => ?_
  refine @vc_of _ (bif bif !plR n0 n1 n2 d then true else !rightL [u, v, w] then V.tup [V.d (D.int IntKind.i64 (0 : Int)), V.d (D.int IntKind.i64 (1 : Int))] = V.tup [vi (diV n0 n1 n2 d u v w), vi (diE n0 n1 n2 d u v w)] else bif !decide (dotE n0 n1 n2 u v w = (0 : Int)) then V.tup [V.d (D.int IntKind.i64 (0 : Int)), V.d (D.int IntKind.i64 (dotE n0 n1 n2 u v w))] = V.tup [vi (diV n0 n1 n2 d u v w), vi (diE n0 n1 n2 d u v w)] else V.tup [V.d (D.int IntKind.i64 (addVL [dotV n0 n1 n2 u v w, d])), V.d (D.int IntKind.i64 (addEL [dotV n0 n1 n2 u v w, d]))] = V.tup [vi (diV n0 n1 n2 d u v w), vi (diE n0 n1 n2 d u v w)]) (by as_aux_lemma => kernel_rfl) ?_
  try simp only [idx1, idx2, tt_, Bool.not_not, true_and, and_true, Bool.cond_self]
  have c3 : (bif !plR n0 n1 n2 d then true else !rightL [u, v, w]) = diG n0 n1 n2 d u v w := rfl
  simp only [c3]
  unfold diV diE
  cases diG n0 n1 n2 d u v w
  · by_cases q : dotE n0 n1 n2 u v w = 0
    · simp only [q, decide_true, Bool.not_true, cond_false, cond_true]
    · simp only [q, decide_false, Bool.not_false, cond_false, cond_true]
  · rfl
end Go.Proofs.Ytmgckodihnmjoaa
