/-
  Parts: whether they are drawn; the contracts of all. Conditions: none.
-/
import Derived.Test.YthkoinngmcpjgaaPaI
set_option linter.unusedVariables false
set_option linter.unusedSimpArgs false
set_option maxRecDepth 20000
namespace Go.Proofs.Ythkoinngmcpjgaa
open Oc
set_option maxRecDepth 100000
def msk1 (b : Bool) (x : V) : V := match x with
  | .d (.int .i64 a) => vi (bif b then 0 else a)
  | .d (.bool a) => vb (bif b then false else a)
  | x => x
noncomputable def wiM (bad h0 h1 h2 h3 : Bool) (s : Int) (l m : List V) : List V := match l, m with
  | x :: l, _ :: m => vi (bif bad then 0 else orK .i64 (v1 x) s) :: (zipL [h0, h0, h0, h0, h0, h0, h0, h0, h0, h0, h0, h0, h1, h1, h1, h1, h1, h1, h1, h2, h2, h2, h3] l m).map (msk1 bad)
  | _, _ => []
noncomputable def woM (bad h0 h1 h2 h3 : Bool) (s : Int) (l : List V) : List V := match l with
  | x :: l => vi (bif bad then 0 else andNotK .i64 (v1 x) s) :: (zipL [h0, h0, h0, h0, h0, h0, h0, h0, h0, h0, h0, h0, h1, h1, h1, h1, h1, h1, h1, h2, h2, h2, h3] l zL.tail).map (msk1 bad)
  | _ => []
def okR (e : Nat) (f : Nat → List D) : Prop := e = 1 ∧ ∀ i, f i = [.int .i64 (iD (f i))]
theorem okR_rw {n e : Nat} {f : Nat → List D} (h : okR e f) : V.d (.rows n e f) = rw_ n fun i => iD (f i) := by
  obtain ⟨rfl, h⟩ := h
  rw [rw_, show (fun i => [D.int .i64 (iD (f i))]) = f from (funext h).symm]
theorem phas_h (s : Int) (n : Nat) (l : Nat → Int) : Fn E 37 [vi s, rw_ n l] (vb (allH s l n)) := by
  rw [← has_all]; exact phas_r s n l
noncomputable def ptH : List (Nat × (List V → Option (List Ob × V))) := (30, fun xs => match xs with
    | [.d (.rows n e f)] => some ([.p (okR e f)], .tup [vi (ofV (fun i => iD (f i)) n), vi (ofE (fun i => iD (f i)) n)])
    | _ => none) ::
  (37, fun xs => match xs with
    | [.d (.int .i64 s), .d (.rows n e f)] => some ([.p (okR e f)], vb (allH s (fun i => iD (f i)) n))
    | [.d (.int .i64 s), .d (.lst 1 [.int .i64 k])] => some ([], vb (hsB s k))
    | [.d (.int .i64 s), .d (.lst 3 [.int .i64 a, .int .i64 b, .int .i64 c])] => some ([], vb (allH s (nthI [a, b, c]) 3))
    | _ => none) ::
  (31, fun xs => match xs with
    | [.agg m, .agg m2, .d (.rows n e f)] => some ([.p (okP m ∧ okP m2 ∧ okR e f)], .tup [.agg (wiM (wiB (pV m) (cV m) (pV m2) (cV m2) n (fun i => iD (f i))) (hasK (fun i => iD (f i)) n 0) (hasK (fun i => iD (f i)) n 1) (hasK (fun i => iD (f i)) n 2) (hasK (fun i => iD (f i)) n 3) (setK (fun i => iD (f i)) n) m m2), vi (bif wiB (pV m) (cV m) (pV m2) (cV m2) n (fun i => iD (f i)) then 1 else 0)])
    | _ => none) ::
  (32, fun xs => match xs with
    | [.agg m, .agg m2, .d (.rows n e f)] => some ([.p (okP m ∧ okP m2 ∧ okR e f)], .tup [.agg (wiM (wiB (pV m) (cV m) (pV m2) (cV m2) n (fun i => iD (f i))) (hasK (fun i => iD (f i)) n 0) (hasK (fun i => iD (f i)) n 1) (hasK (fun i => iD (f i)) n 2) (hasK (fun i => iD (f i)) n 3) (setK (fun i => iD (f i)) n) m m2), vi (bif wiB (pV m) (cV m) (pV m2) (cV m2) n (fun i => iD (f i)) then 1 else 0)])
    | _ => none) ::
  (33, fun xs => match xs with
    | [.agg m, .d (.rows n e f)] => some ([.p (okP m ∧ okR e f)], .tup [.agg (woM (woB (pV m) (cV m) n (fun i => iD (f i))) (hasK (fun i => iD (f i)) n 0) (hasK (fun i => iD (f i)) n 1) (hasK (fun i => iD (f i)) n 2) (hasK (fun i => iD (f i)) n 3) (setK (fun i => iD (f i)) n) m), vi (bif woB (pV m) (cV m) n (fun i => iD (f i)) then 1 else 0)])
    | _ => none) ::
  (34, fun xs => match xs with
    | [.agg m, .d (.rows n e f)] => some ([.p (okP m ∧ okR e f)], .tup [.agg (woM (woB (pV m) (cV m) n (fun i => iD (f i))) (hasK (fun i => iD (f i)) n 0) (hasK (fun i => iD (f i)) n 1) (hasK (fun i => iD (f i)) n 2) (hasK (fun i => iD (f i)) n 3) (setK (fun i => iD (f i)) n) m), vi (bif woB (pV m) (cV m) n (fun i => iD (f i)) then 1 else 0)])
    | _ => none) :: ptG
theorem ptH_ok : PtOk E ptH := by
  refine PtOk.cons ok30.en (fun args l r e hl => ?_) (PtOk.cons ok37.en (fun args l r e hl => ?_) (PtOk.cons ok31.en (fun args l r e hl => ?_) (PtOk.cons ok32.en (fun args l r e hl => ?_) (PtOk.cons ok33.en (fun args l r e hl => ?_) (PtOk.cons ok34.en (fun args l r e hl => ?_) (ptG_ok))))))
  · split at e
    · rename_i n e' f; cases e; rw [okR_rw (obsL_cons hl).1]; exact rof_r n _
    · cases e
  · split at e
    · rename_i s n e' f; cases e; rw [okR_rw (obsL_cons hl).1]; exact phas_h s n _
    · rename_i s k; cases e; exact Fn.leA rfl (.cons (.refl _) (.cons (VLe.ofL (f := fun _ => [.int .i64 k]) rfl (fun i hi => rfl)) .nil)) (by have := phas_h s 1 fun _ => k; unfold allH allN at this; rwa [show allN 0 (fun _ => hsB s k) = true from rfl, Bool.true_and] at this)
    · rename_i s a b c; cases e; exact Fn.leA rfl (.cons (.refl _) (.cons (VLe.ofL (f := fun i => [.int .i64 (nthI [a, b, c] i)]) rfl (fun i hi => rfl)) .nil)) (phas_h s 3 (nthI [a, b, c]))
    · cases e
  · split at e
    · rename_i m m2 n e' f; cases e; obtain ⟨o1, o2, o3⟩ := (obsL_cons hl).1; rw [okR_rw o3]; obtain ⟨p, c, rfl⟩ := okP_x o1; obtain ⟨q, d, rfl⟩ := okP_x o2; exact with_r p c q d n _
    · cases e
  · split at e
    · rename_i m m2 n e' f; cases e; obtain ⟨o1, o2, o3⟩ := (obsL_cons hl).1; rw [okR_rw o3]; obtain ⟨p, c, rfl⟩ := okP_x o1; obtain ⟨q, d, rfl⟩ := okP_x o2; exact rwith_r p c q d n _
    · cases e
  · split at e
    · rename_i m n e' f; cases e; obtain ⟨o1, o3⟩ := (obsL_cons hl).1; rw [okR_rw o3]; obtain ⟨p, c, rfl⟩ := okP_x o1; exact without_r p c n _
    · cases e
  · split at e
    · rename_i m n e' f; cases e; obtain ⟨o1, o3⟩ := (obsL_cons hl).1; rw [okR_rw o3]; obtain ⟨p, c, rfl⟩ := okP_x o1; exact rwithout_r p c n _
    · cases e
noncomputable def csJ6 : Cs := csN E.tab eqs fnL none (csP ptH) 10
theorem csJ6_ok : CsOk E csJ6 := csN_ok fnL_ok eqs_ok (csP_ok ptH_ok) 10
def drB (p : Nat → Int) (c : Bool) : Bool := parR p c && (bitB (p 0) 0 && (bitB (p 0) 1 && bitB (p 0) 2))
theorem drawn_r (p : Nat → Int) (c : Bool) : Fn E 40 [prt p c] (vb (drB p c)) := by
  refine Fn.of_vc ok40 eqs_ok csJ6_ok rfl rfl rfl (by first | exact .inl (by as_aux_lemma => kernel_rfl) | exact .inr (by as_aux_lemma => kernel_rfl)) fun hr => ?_
  refine @vc_of _ ([vI (p 0), vI (p 1), vI (p 2), vI (p 3), vI (p 4), vI (p 5), vI (p 6), vI (p 7), vI (p 8), vI (p 9), vI (p 10), vI (p 11), vI (p 12), vI (p 13), vI (p 14), vI (p 15), vI (p 16), vI (p 17), vI (p 18), vI (p 19), vI (p 20), vI (p 21), V.d (D.bool c), vI (p 22)] = prL (pV [vI (p 0), vI (p 1), vI (p 2), vI (p 3), vI (p 4), vI (p 5), vI (p 6), vI (p 7), vI (p 8), vI (p 9), vI (p 10), vI (p 11), vI (p 12), vI (p 13), vI (p 14), vI (p 15), vI (p 16), vI (p 17), vI (p 18), vI (p 19), vI (p 20), vI (p 21), V.d (D.bool c), vI (p 22)]) (cV [vI (p 0), vI (p 1), vI (p 2), vI (p 3), vI (p 4), vI (p 5), vI (p 6), vI (p 7), vI (p 8), vI (p 9), vI (p 10), vI (p 11), vI (p 12), vI (p 13), vI (p 14), vI (p 15), vI (p 16), vI (p 17), vI (p 18), vI (p 19), vI (p 20), vI (p 21), V.d (D.bool c), vI (p 22)]) ∧ V.d (D.bool (bif parR (pV [vI (p 0), vI (p 1), vI (p 2), vI (p 3), vI (p 4), vI (p 5), vI (p 6), vI (p 7), vI (p 8), vI (p 9), vI (p 10), vI (p 11), vI (p 12), vI (p 13), vI (p 14), vI (p 15), vI (p 16), vI (p 17), vI (p 18), vI (p 19), vI (p 20), vI (p 21), V.d (D.bool c), vI (p 22)]) (cV [vI (p 0), vI (p 1), vI (p 2), vI (p 3), vI (p 4), vI (p 5), vI (p 6), vI (p 7), vI (p 8), vI (p 9), vI (p 10), vI (p 11), vI (p 12), vI (p 13), vI (p 14), vI (p 15), vI (p 16), vI (p 17), vI (p 18), vI (p 19), vI (p 20), vI (p 21), V.d (D.bool c), vI (p 22)]) then allH (p 0) (nthI [(0 : Int), (1 : Int), (2 : Int)]) (3 : Nat) else false)) = vb (drB p c)) (by as_aux_lemma => kernel_rfl) ?_
  have eP : parR (pV (prL p c)) (cV (prL p c)) = parR p c := rfl
  unfold prL vi vb at eP
  rw [eP]
  refine ⟨rfl, ?_⟩
  unfold drB
  have : allH (p 0) (nthI [0, 1, 2]) 3 = (bitB (p 0) 0 && (bitB (p 0) 1 && bitB (p 0) 2)) := by
    show (((true && hsB (p 0) 0) && hsB (p 0) 1) && hsB (p 0) 2) = _
    rw [show hsB (p 0) 0 = bitB (p 0) 0 from hs_fin _ ⟨0, by decide⟩, show hsB (p 0) 1 = bitB (p 0) 1 from hs_fin _ ⟨1, by decide⟩, show hsB (p 0) 2 = bitB (p 0) 2 from hs_fin _ ⟨2, by decide⟩, Bool.true_and, Bool.and_assoc]
  rw [this]
  cases parR p c <;> rfl
theorem rdrawn_r (p : Nat → Int) (c : Bool) : Fn E 41 [prt p c] (vb (drB p c)) := by
  refine Fn.of_vc ok41 eqs_ok csJ6_ok rfl rfl rfl (by first | exact .inl (by as_aux_lemma => kernel_rfl) | exact .inr (by as_aux_lemma => kernel_rfl)) fun hr => ?_
  refine @vc_of _ ([vI (p 0), vI (p 1), vI (p 2), vI (p 3), vI (p 4), vI (p 5), vI (p 6), vI (p 7), vI (p 8), vI (p 9), vI (p 10), vI (p 11), vI (p 12), vI (p 13), vI (p 14), vI (p 15), vI (p 16), vI (p 17), vI (p 18), vI (p 19), vI (p 20), vI (p 21), V.d (D.bool c), vI (p 22)] = prL (pV [vI (p 0), vI (p 1), vI (p 2), vI (p 3), vI (p 4), vI (p 5), vI (p 6), vI (p 7), vI (p 8), vI (p 9), vI (p 10), vI (p 11), vI (p 12), vI (p 13), vI (p 14), vI (p 15), vI (p 16), vI (p 17), vI (p 18), vI (p 19), vI (p 20), vI (p 21), V.d (D.bool c), vI (p 22)]) (cV [vI (p 0), vI (p 1), vI (p 2), vI (p 3), vI (p 4), vI (p 5), vI (p 6), vI (p 7), vI (p 8), vI (p 9), vI (p 10), vI (p 11), vI (p 12), vI (p 13), vI (p 14), vI (p 15), vI (p 16), vI (p 17), vI (p 18), vI (p 19), vI (p 20), vI (p 21), V.d (D.bool c), vI (p 22)]) ∧ V.d (D.bool (bif parR (pV [vI (p 0), vI (p 1), vI (p 2), vI (p 3), vI (p 4), vI (p 5), vI (p 6), vI (p 7), vI (p 8), vI (p 9), vI (p 10), vI (p 11), vI (p 12), vI (p 13), vI (p 14), vI (p 15), vI (p 16), vI (p 17), vI (p 18), vI (p 19), vI (p 20), vI (p 21), V.d (D.bool c), vI (p 22)]) (cV [vI (p 0), vI (p 1), vI (p 2), vI (p 3), vI (p 4), vI (p 5), vI (p 6), vI (p 7), vI (p 8), vI (p 9), vI (p 10), vI (p 11), vI (p 12), vI (p 13), vI (p 14), vI (p 15), vI (p 16), vI (p 17), vI (p 18), vI (p 19), vI (p 20), vI (p 21), V.d (D.bool c), vI (p 22)]) then decide (andK IntKind.i64 (p 0) (7 : Int) = (7 : Int)) else false)) = vb (drB p c)) (by as_aux_lemma => kernel_rfl) ?_
  have eP : parR (pV (prL p c)) (cV (prL p c)) = parR p c := rfl
  unfold prL vi vb at eP
  rw [eP]
  unfold drB
  have e7 : (7 : Int) = setN true true true false false := rfl
  have : decide (andK .i64 (p 0) 7 = 7) = (bitB (p 0) 0 && (bitB (p 0) 1 && bitB (p 0) 2)) := by
    rw [e7, and_set, Bool.eq_iff_iff, decide_eq_true_eq, set_inj]
    simp
  rw [this]
  refine ⟨rfl, ?_⟩
  cases parR p c <;> rfl
end Go.Proofs.Ythkoinngmcpjgaa
