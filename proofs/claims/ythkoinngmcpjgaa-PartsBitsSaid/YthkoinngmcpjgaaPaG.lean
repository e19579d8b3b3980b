/-
  Parts with kinds, and without: what the code comes to. Conditions: none.
-/
import Derived.Test.YthkoinngmcpjgaaPaF
set_option linter.unusedVariables false
set_option linter.unusedSimpArgs false
set_option maxRecDepth 20000
namespace Go.Proofs.Ythkoinngmcpjgaa
open Oc
set_option maxRecDepth 100000
theorem hasK_iff {l : Nat → Int} {n : Nat} {j : Int} : hasK l n j = true ↔ ∃ i, i < n ∧ l i = j := by
  induction n with
  | zero => simp [hasK]
  | succ n ih =>
    simp only [hasK, Bool.or_eq_true, ih, decide_eq_true_eq]
    constructor
    · rintro (⟨i, h1, h2⟩ | h)
      · exact ⟨i, by omega, h2⟩
      · exact ⟨n, by omega, h⟩
    · rintro ⟨i, h1, h2⟩
      rcases Nat.lt_or_ge i n with h | h
      · exact .inl ⟨i, h, h2⟩
      · obtain rfl : i = n := by omega
        exact .inr h2
theorem hs_th {s : Int} {l : Nat → Int} {i : Nat} (h : hsB s (l i) = true) : thI l i = true := by
  unfold hsB at h; rw [th_eq]
  simp only [Bool.and_eq_true] at h ⊢; exact ⟨h.1, h.2.1⟩
/-- All of some kinds are in a set. -/
def allH (s : Int) (l : Nat → Int) (n : Nat) : Bool := allN n fun i => hsB s (l i)
theorem has_set {s : Int} {l : Nat → Int} {n : Nat} (h : ∀ i, i < n → thI l i = true) : decide (andK .i64 s (setK l n) = setK l n) = allH s l n := by
  unfold setK
  rw [and_set, Bool.eq_iff_iff, decide_eq_true_eq, set_inj]
  unfold allH; rw [allN_iff]
  have im : ∀ a b : Bool, (a && b) = b ↔ (b = true → a = true) := by decide
  simp only [im, hasK_iff]
  constructor
  · rintro ⟨c0, c1, c2, c3, c4⟩ i hi
    obtain ⟨j, hj⟩ := th_fin (h i hi)
    rw [hj, hs_fin]
    match j with
    | ⟨0, _⟩ => exact c0 ⟨i, hi, hj⟩
    | ⟨1, _⟩ => exact c1 ⟨i, hi, hj⟩
    | ⟨2, _⟩ => exact c2 ⟨i, hi, hj⟩
    | ⟨3, _⟩ => exact c3 ⟨i, hi, hj⟩
    | ⟨4, _⟩ => exact c4 ⟨i, hi, hj⟩
  · intro c
    refine ⟨?_, ?_, ?_, ?_, ?_⟩ <;> rintro ⟨i, hi, hj⟩ <;> have := c i hi <;> rw [hj] at this
    · exact (hs_fin s ⟨0, by decide⟩).symm.trans this
    · exact (hs_fin s ⟨1, by decide⟩).symm.trans this
    · exact (hs_fin s ⟨2, by decide⟩).symm.trans this
    · exact (hs_fin s ⟨3, by decide⟩).symm.trans this
    · exact (hs_fin s ⟨4, by decide⟩).symm.trans this
theorem has_all (s : Int) (l : Nat → Int) (n : Nat) : (bif decide (ofE l n = 0) then decide (andK .i64 s (ofV l n) = ofV l n) else false) = allH s l n := by
  cases hT : allN n (thI l)
  · have : allH s l n = false := by
      rw [← Bool.not_eq_true]; intro h
      rw [← Bool.not_eq_true] at hT
      exact hT (allN_iff.2 fun i hi => hs_th (allN_iff.1 h i hi))
    rw [this]; unfold ofE; rw [hT]; rfl
  · unfold ofE ofV; rw [hT]
    exact has_set (allN_iff.1 hT)
/-- Parts with kinds of others: not what may be; the rest. -/
def wiB (p : Nat → Int) (c : Bool) (q : Nat → Int) (d : Bool) (n : Nat) (l : Nat → Int) : Bool := !(allN n (thI l) && (parR p c && (parR q d && allH (q 0) l n)))
noncomputable def wiL (bad h0 h1 h2 h3 : Bool) (s : Int) (p : Nat → Int) (c : Bool) (q : Nat → Int) (d : Bool) : List V := [vi (bif bad then 0 else orK .i64 (p 0) s), vi (bif bad then 0 else bif h0 then q 1 else p 1), vi (bif bad then 0 else bif h0 then q 2 else p 2), vi (bif bad then 0 else bif h0 then q 3 else p 3), vi (bif bad then 0 else bif h0 then q 4 else p 4), vi (bif bad then 0 else bif h0 then q 5 else p 5), vi (bif bad then 0 else bif h0 then q 6 else p 6), vi (bif bad then 0 else bif h0 then q 7 else p 7), vi (bif bad then 0 else bif h0 then q 8 else p 8), vi (bif bad then 0 else bif h0 then q 9 else p 9), vi (bif bad then 0 else bif h0 then q 10 else p 10), vi (bif bad then 0 else bif h0 then q 11 else p 11), vi (bif bad then 0 else bif h0 then q 12 else p 12), vi (bif bad then 0 else bif h1 then q 13 else p 13), vi (bif bad then 0 else bif h1 then q 14 else p 14), vi (bif bad then 0 else bif h1 then q 15 else p 15), vi (bif bad then 0 else bif h1 then q 16 else p 16), vi (bif bad then 0 else bif h1 then q 17 else p 17), vi (bif bad then 0 else bif h1 then q 18 else p 18), vi (bif bad then 0 else bif h1 then q 19 else p 19), vi (bif bad then 0 else bif h2 then q 20 else p 20), vi (bif bad then 0 else bif h2 then q 21 else p 21), vb (bif bad then false else bif h2 then d else c), vi (bif bad then 0 else bif h3 then q 22 else p 22)]
noncomputable def wiR (p : Nat → Int) (c : Bool) (q : Nat → Int) (d : Bool) (n : Nat) (l : Nat → Int) : V := .tup [.agg (wiL (wiB p c q d n l) (hasK l n 0) (hasK l n 1) (hasK l n 2) (hasK l n 3) (setK l n) p c q d), vi (bif wiB p c q d n l then 1 else 0)]
def woB (p : Nat → Int) (c : Bool) (n : Nat) (l : Nat → Int) : Bool := !(allN n (thI l) && parR p c)
noncomputable def woL (bad h0 h1 h2 h3 : Bool) (s : Int) (p : Nat → Int) (c : Bool) : List V := [vi (bif bad then 0 else andNotK .i64 (p 0) s), vi (bif bad then 0 else bif h0 then 0 else p 1), vi (bif bad then 0 else bif h0 then 0 else p 2), vi (bif bad then 0 else bif h0 then 0 else p 3), vi (bif bad then 0 else bif h0 then 0 else p 4), vi (bif bad then 0 else bif h0 then 0 else p 5), vi (bif bad then 0 else bif h0 then 0 else p 6), vi (bif bad then 0 else bif h0 then 0 else p 7), vi (bif bad then 0 else bif h0 then 0 else p 8), vi (bif bad then 0 else bif h0 then 0 else p 9), vi (bif bad then 0 else bif h0 then 0 else p 10), vi (bif bad then 0 else bif h0 then 0 else p 11), vi (bif bad then 0 else bif h0 then 0 else p 12), vi (bif bad then 0 else bif h1 then 0 else p 13), vi (bif bad then 0 else bif h1 then 0 else p 14), vi (bif bad then 0 else bif h1 then 0 else p 15), vi (bif bad then 0 else bif h1 then 0 else p 16), vi (bif bad then 0 else bif h1 then 0 else p 17), vi (bif bad then 0 else bif h1 then 0 else p 18), vi (bif bad then 0 else bif h1 then 0 else p 19), vi (bif bad then 0 else bif h2 then 0 else p 20), vi (bif bad then 0 else bif h2 then 0 else p 21), vb (bif bad then false else bif h2 then false else c), vi (bif bad then 0 else bif h3 then 0 else p 22)]
noncomputable def woR (p : Nat → Int) (c : Bool) (n : Nat) (l : Nat → Int) : V := .tup [.agg (woL (woB p c n l) (hasK l n 0) (hasK l n 1) (hasK l n 2) (hasK l n 3) (setK l n) p c), vi (bif woB p c n l then 1 else 0)]
noncomputable def ptG : List (Nat × (List V → Option (List Ob × V))) := (38, fun xs => match xs with
    | [.agg m] => some ([.p (okP m)], vb (parR (pV m) (cV m)))
    | _ => none) ::
  (39, fun xs => match xs with
    | [.agg m] => some ([.p (okP m)], vb (parR (pV m) (cV m)))
    | _ => none) :: ptF
theorem ptG_ok : PtOk E ptG := by
  refine PtOk.cons ok38.en (fun args l r e hl => ?_) (PtOk.cons ok39.en (fun args l r e hl => ?_) (ptF_ok))
  · split at e
    · rename_i m; cases e; have := pright_r (pV m) (cV m); rw [prt, ← show m = prL (pV m) (cV m) from (obsL_cons hl).1] at this; exact this
    · cases e
  · split at e
    · rename_i m; cases e; have := rright_r (pV m) (cV m); rw [prt, ← show m = prL (pV m) (cV m) from (obsL_cons hl).1] at this; exact this
    · cases e
noncomputable def csH : Cs := csN E.tab eqs fnL none (csP ptG) 10
theorem csH_ok : CsOk E csH := csN_ok fnL_ok eqs_ok (csP_ok ptG_ok) 10
theorem with_r (p : Nat → Int) (c : Bool) (q : Nat → Int) (d : Bool) (n : Nat) (l : Nat → Int) : Fn E 31 [prt p c, prt q d, rw_ n l] (wiR p c q d n l) := by
  refine Fn.of_vc ok31 eqs_ok csH_ok rfl rfl rfl (by first | exact .inl (by as_aux_lemma => kernel_rfl) | exact .inr (by as_aux_lemma => kernel_rfl)) fun hr => ?_
  refine @vc_of _ (((1 : Nat) = (1 : Nat) ∧ ∀ (i : Nat), [D.int IntKind.i64 (l i)] = [D.int IntKind.i64 (iD ((fun (i : Nat) => [D.int IntKind.i64 (l i)]) i))]) ∧ (bif !decide (ofE (fun (i : Nat) => iD [D.int IntKind.i64 (l i)]) n = (0 : Int)) then True else [vI (p 0), vI (p 1), vI (p 2), vI (p 3), vI (p 4), vI (p 5), vI (p 6), vI (p 7), vI (p 8), vI (p 9), vI (p 10), vI (p 11), vI (p 12), vI (p 13), vI (p 14), vI (p 15), vI (p 16), vI (p 17), vI (p 18), vI (p 19), vI (p 20), vI (p 21), V.d (D.bool c), vI (p 22)] = prL (pV [vI (p 0), vI (p 1), vI (p 2), vI (p 3), vI (p 4), vI (p 5), vI (p 6), vI (p 7), vI (p 8), vI (p 9), vI (p 10), vI (p 11), vI (p 12), vI (p 13), vI (p 14), vI (p 15), vI (p 16), vI (p 17), vI (p 18), vI (p 19), vI (p 20), vI (p 21), V.d (D.bool c), vI (p 22)]) (cV [vI (p 0), vI (p 1), vI (p 2), vI (p 3), vI (p 4), vI (p 5), vI (p 6), vI (p 7), vI (p 8), vI (p 9), vI (p 10), vI (p 11), vI (p 12), vI (p 13), vI (p 14), vI (p 15), vI (p 16), vI (p 17), vI (p 18), vI (p 19), vI (p 20), vI (p 21), V.d (D.bool c), vI (p 22)]) ∧ (bif !parR (pV [vI (p 0), vI (p 1), vI (p 2), vI (p 3), vI (p 4), vI (p 5), vI (p 6), vI (p 7), vI (p 8), vI (p 9), vI (p 10), vI (p 11), vI (p 12), vI (p 13), vI (p 14), vI (p 15), vI (p 16), vI (p 17), vI (p 18), vI (p 19), vI (p 20), vI (p 21), V.d (D.bool c), vI (p 22)]) (cV [vI (p 0), vI (p 1), vI (p 2), vI (p 3), vI (p 4), vI (p 5), vI (p 6), vI (p 7), vI (p 8), vI (p 9), vI (p 10), vI (p 11), vI (p 12), vI (p 13), vI (p 14), vI (p 15), vI (p 16), vI (p 17), vI (p 18), vI (p 19), vI (p 20), vI (p 21), V.d (D.bool c), vI (p 22)]) then True else [vI (q 0), vI (q 1), vI (q 2), vI (q 3), vI (q 4), vI (q 5), vI (q 6), vI (q 7), vI (q 8), vI (q 9), vI (q 10), vI (q 11), vI (q 12), vI (q 13), vI (q 14), vI (q 15), vI (q 16), vI (q 17), vI (q 18), vI (q 19), vI (q 20), vI (q 21), V.d (D.bool d), vI (q 22)] = prL (pV [vI (q 0), vI (q 1), vI (q 2), vI (q 3), vI (q 4), vI (q 5), vI (q 6), vI (q 7), vI (q 8), vI (q 9), vI (q 10), vI (q 11), vI (q 12), vI (q 13), vI (q 14), vI (q 15), vI (q 16), vI (q 17), vI (q 18), vI (q 19), vI (q 20), vI (q 21), V.d (D.bool d), vI (q 22)]) (cV [vI (q 0), vI (q 1), vI (q 2), vI (q 3), vI (q 4), vI (q 5), vI (q 6), vI (q 7), vI (q 8), vI (q 9), vI (q 10), vI (q 11), vI (q 12), vI (q 13), vI (q 14), vI (q 15), vI (q 16), vI (q 17), vI (q 18), vI (q 19), vI (q 20), vI (q 21), V.d (D.bool d), vI (q 22)]) ∧ True) ∧ True) ∧ bif bif !decide (ofE (fun (i : Nat) => iD [D.int IntKind.i64 (l i)]) n = (0 : Int)) then true else bif !parR (pV [vI (p 0), vI (p 1), vI (p 2), vI (p 3), vI (p 4), vI (p 5), vI (p 6), vI (p 7), vI (p 8), vI (p 9), vI (p 10), vI (p 11), vI (p 12), vI (p 13), vI (p 14), vI (p 15), vI (p 16), vI (p 17), vI (p 18), vI (p 19), vI (p 20), vI (p 21), V.d (D.bool c), vI (p 22)]) (cV [vI (p 0), vI (p 1), vI (p 2), vI (p 3), vI (p 4), vI (p 5), vI (p 6), vI (p 7), vI (p 8), vI (p 9), vI (p 10), vI (p 11), vI (p 12), vI (p 13), vI (p 14), vI (p 15), vI (p 16), vI (p 17), vI (p 18), vI (p 19), vI (p 20), vI (p 21), V.d (D.bool c), vI (p 22)]) then true else bif !parR (pV [vI (q 0), vI (q 1), vI (q 2), vI (q 3), vI (q 4), vI (q 5), vI (q 6), vI (q 7), vI (q 8), vI (q 9), vI (q 10), vI (q 11), vI (q 12), vI (q 13), vI (q 14), vI (q 15), vI (q 16), vI (q 17), vI (q 18), vI (q 19), vI (q 20), vI (q 21), V.d (D.bool d), vI (q 22)]) (cV [vI (q 0), vI (q 1), vI (q 2), vI (q 3), vI (q 4), vI (q 5), vI (q 6), vI (q 7), vI (q 8), vI (q 9), vI (q 10), vI (q 11), vI (q 12), vI (q 13), vI (q 14), vI (q 15), vI (q 16), vI (q 17), vI (q 18), vI (q 19), vI (q 20), vI (q 21), V.d (D.bool d), vI (q 22)]) then true else !decide (andK IntKind.i64 (q 0) (ofV (fun (i : Nat) => iD [D.int IntKind.i64 (l i)]) n) = ofV (fun (i : Nat) => iD [D.int IntKind.i64 (l i)]) n) then V.tup [V.agg [vI (0 : Int), vI (0 : Int), vI (0 : Int), vI (0 : Int), vI (0 : Int), vI (0 : Int), vI (0 : Int), vI (0 : Int), vI (0 : Int), vI (0 : Int), vI (0 : Int), vI (0 : Int), vI (0 : Int), vI (0 : Int), vI (0 : Int), vI (0 : Int), vI (0 : Int), vI (0 : Int), vI (0 : Int), vI (0 : Int), vI (0 : Int), vI (0 : Int), V.d (D.bool false), vI (0 : Int)], vI (1 : Int)] = wiR p c q d n l else ([vI (p 0), vI (p 1), vI (p 2), vI (p 3), vI (p 4), vI (p 5), vI (p 6), vI (p 7), vI (p 8), vI (p 9), vI (p 10), vI (p 11), vI (p 12), vI (p 13), vI (p 14), vI (p 15), vI (p 16), vI (p 17), vI (p 18), vI (p 19), vI (p 20), vI (p 21), V.d (D.bool c), vI (p 22)] = prL (pV [vI (p 0), vI (p 1), vI (p 2), vI (p 3), vI (p 4), vI (p 5), vI (p 6), vI (p 7), vI (p 8), vI (p 9), vI (p 10), vI (p 11), vI (p 12), vI (p 13), vI (p 14), vI (p 15), vI (p 16), vI (p 17), vI (p 18), vI (p 19), vI (p 20), vI (p 21), V.d (D.bool c), vI (p 22)]) (cV [vI (p 0), vI (p 1), vI (p 2), vI (p 3), vI (p 4), vI (p 5), vI (p 6), vI (p 7), vI (p 8), vI (p 9), vI (p 10), vI (p 11), vI (p 12), vI (p 13), vI (p 14), vI (p 15), vI (p 16), vI (p 17), vI (p 18), vI (p 19), vI (p 20), vI (p 21), V.d (D.bool c), vI (p 22)]) ∧ [vI (q 0), vI (q 1), vI (q 2), vI (q 3), vI (q 4), vI (q 5), vI (q 6), vI (q 7), vI (q 8), vI (q 9), vI (q 10), vI (q 11), vI (q 12), vI (q 13), vI (q 14), vI (q 15), vI (q 16), vI (q 17), vI (q 18), vI (q 19), vI (q 20), vI (q 21), V.d (D.bool d), vI (q 22)] = prL (pV [vI (q 0), vI (q 1), vI (q 2), vI (q 3), vI (q 4), vI (q 5), vI (q 6), vI (q 7), vI (q 8), vI (q 9), vI (q 10), vI (q 11), vI (q 12), vI (q 13), vI (q 14), vI (q 15), vI (q 16), vI (q 17), vI (q 18), vI (q 19), vI (q 20), vI (q 21), V.d (D.bool d), vI (q 22)]) (cV [vI (q 0), vI (q 1), vI (q 2), vI (q 3), vI (q 4), vI (q 5), vI (q 6), vI (q 7), vI (q 8), vI (q 9), vI (q 10), vI (q 11), vI (q 12), vI (q 13), vI (q 14), vI (q 15), vI (q 16), vI (q 17), vI (q 18), vI (q 19), vI (q 20), vI (q 21), V.d (D.bool d), vI (q 22)]) ∧ (1 : Nat) = (1 : Nat) ∧ (∀ (i : Nat), [D.int IntKind.i64 (l i)] = [D.int IntKind.i64 (iD ((fun (i : Nat) => [D.int IntKind.i64 (l i)]) i))]) ∧ ∀ (i : Nat), i < n → thI (fun (i : Nat) => iD [D.int IntKind.i64 (l i)]) i = true) ∧ V.tup [V.agg [vI (orK IntKind.i64 (p 0) (ofV (fun (i : Nat) => iD [D.int IntKind.i64 (l i)]) n)), vI (bif hasK (fun (i : Nat) => iD [D.int IntKind.i64 (l i)]) n (0 : Int) then q (1 : Nat) else p (1 : Nat)), vI (bif hasK (fun (i : Nat) => iD [D.int IntKind.i64 (l i)]) n (0 : Int) then q (2 : Nat) else p (2 : Nat)), vI (bif hasK (fun (i : Nat) => iD [D.int IntKind.i64 (l i)]) n (0 : Int) then q (3 : Nat) else p (3 : Nat)), vI (bif hasK (fun (i : Nat) => iD [D.int IntKind.i64 (l i)]) n (0 : Int) then q (4 : Nat) else p (4 : Nat)), vI (bif hasK (fun (i : Nat) => iD [D.int IntKind.i64 (l i)]) n (0 : Int) then q (5 : Nat) else p (5 : Nat)), vI (bif hasK (fun (i : Nat) => iD [D.int IntKind.i64 (l i)]) n (0 : Int) then q (6 : Nat) else p (6 : Nat)), vI (bif hasK (fun (i : Nat) => iD [D.int IntKind.i64 (l i)]) n (0 : Int) then q (7 : Nat) else p (7 : Nat)), vI (bif hasK (fun (i : Nat) => iD [D.int IntKind.i64 (l i)]) n (0 : Int) then q (8 : Nat) else p (8 : Nat)), vI (bif hasK (fun (i : Nat) => iD [D.int IntKind.i64 (l i)]) n (0 : Int) then q (9 : Nat) else p (9 : Nat)), vI (bif hasK (fun (i : Nat) => iD [D.int IntKind.i64 (l i)]) n (0 : Int) then q (10 : Nat) else p (10 : Nat)), vI (bif hasK (fun (i : Nat) => iD [D.int IntKind.i64 (l i)]) n (0 : Int) then q (11 : Nat) else p (11 : Nat)), vI (bif hasK (fun (i : Nat) => iD [D.int IntKind.i64 (l i)]) n (0 : Int) then q (12 : Nat) else p (12 : Nat)), vI (bif hasK (fun (i : Nat) => iD [D.int IntKind.i64 (l i)]) n (1 : Int) then q (13 : Nat) else p (13 : Nat)), vI (bif hasK (fun (i : Nat) => iD [D.int IntKind.i64 (l i)]) n (1 : Int) then q (14 : Nat) else p (14 : Nat)), vI (bif hasK (fun (i : Nat) => iD [D.int IntKind.i64 (l i)]) n (1 : Int) then q (15 : Nat) else p (15 : Nat)), vI (bif hasK (fun (i : Nat) => iD [D.int IntKind.i64 (l i)]) n (1 : Int) then q (16 : Nat) else p (16 : Nat)), vI (bif hasK (fun (i : Nat) => iD [D.int IntKind.i64 (l i)]) n (1 : Int) then q (17 : Nat) else p (17 : Nat)), vI (bif hasK (fun (i : Nat) => iD [D.int IntKind.i64 (l i)]) n (1 : Int) then q (18 : Nat) else p (18 : Nat)), vI (bif hasK (fun (i : Nat) => iD [D.int IntKind.i64 (l i)]) n (1 : Int) then q (19 : Nat) else p (19 : Nat)), vI (bif hasK (fun (i : Nat) => iD [D.int IntKind.i64 (l i)]) n (2 : Int) then q (20 : Nat) else p (20 : Nat)), vI (bif hasK (fun (i : Nat) => iD [D.int IntKind.i64 (l i)]) n (2 : Int) then q (21 : Nat) else p (21 : Nat)), V.d (D.bool (bif hasK (fun (i : Nat) => iD [D.int IntKind.i64 (l i)]) n (2 : Int) then d else c)), vI (bif hasK (fun (i : Nat) => iD [D.int IntKind.i64 (l i)]) n (3 : Int) then q (22 : Nat) else p (22 : Nat))], vI (0 : Int)] = wiR p c q d n l) (by as_aux_lemma => kernel_rfl) ?_
  have eI : (fun i => iD [D.int .i64 (l i)]) = l := rfl
  have eP : parR (pV (prL p c)) (cV (prL p c)) = parR p c := rfl
  have eQ : parR (pV (prL q d)) (cV (prL q d)) = parR q d := rfl
  unfold prL vi vb at eP eQ
  rw [eI, eP, eQ]
  refine ⟨⟨rfl, fun _ => rfl⟩, ?_⟩
  have hE : ofE l n = bif allN n (thI l) then 0 else 1 := rfl
  have hV : ofV l n = bif allN n (thI l) then setK l n else 0 := rfl
  rw [hE, hV]
  cases hT : allN n (thI l)
  · refine ⟨trivial, ?_⟩
    have : wiB p c q d n l = true := by unfold wiB; rw [hT]; rfl
    unfold wiR wiL; rw [this]; rfl
  cases hp : parR p c
  · refine ⟨by repeat' (first | exact trivial | exact rfl | refine And.intro ?_ ?_), ?_⟩
    have : wiB p c q d n l = true := by unfold wiB; rw [hT, hp]; rfl
    unfold wiR wiL; rw [this]; rfl
  cases hq : parR q d
  · refine ⟨by repeat' (first | exact trivial | exact rfl | refine And.intro ?_ ?_), ?_⟩
    have : wiB p c q d n l = true := by unfold wiB; rw [hT, hp, hq]; rfl
    unfold wiR wiL; rw [this]; rfl
  refine ⟨by repeat' (first | exact trivial | exact rfl | refine And.intro ?_ ?_), ?_⟩
  have hH := has_set (s := q 0) (allN_iff.1 hT)
  show (bif !decide (andK .i64 (q 0) (setK l n) = setK l n) then _ else _)
  rw [hH]
  refine way_iff.2 ⟨fun h => ?_, fun h => ?_⟩
  · have : wiB p c q d n l = true := by unfold wiB; rw [hT, hp, hq]; exact h
    unfold wiR wiL; rw [this]; rfl
  · have : wiB p c q d n l = false := by unfold wiB; rw [hT, hp, hq]; exact h
    unfold wiR wiL; rw [this]
    exact ⟨⟨rfl, rfl, rfl, fun _ => rfl, allN_iff.1 hT⟩, rfl⟩
theorem without_r (p : Nat → Int) (c : Bool) (n : Nat) (l : Nat → Int) : Fn E 33 [prt p c, rw_ n l] (woR p c n l) := by
  refine Fn.of_vc ok33 eqs_ok csH_ok rfl rfl rfl (by first | exact .inl (by as_aux_lemma => kernel_rfl) | exact .inr (by as_aux_lemma => kernel_rfl)) fun hr => ?_
  refine @vc_of _ (((1 : Nat) = (1 : Nat) ∧ ∀ (i : Nat), [D.int IntKind.i64 (l i)] = [D.int IntKind.i64 (iD ((fun (i : Nat) => [D.int IntKind.i64 (l i)]) i))]) ∧ (bif !decide (ofE (fun (i : Nat) => iD [D.int IntKind.i64 (l i)]) n = (0 : Int)) then True else [vI (p 0), vI (p 1), vI (p 2), vI (p 3), vI (p 4), vI (p 5), vI (p 6), vI (p 7), vI (p 8), vI (p 9), vI (p 10), vI (p 11), vI (p 12), vI (p 13), vI (p 14), vI (p 15), vI (p 16), vI (p 17), vI (p 18), vI (p 19), vI (p 20), vI (p 21), V.d (D.bool c), vI (p 22)] = prL (pV [vI (p 0), vI (p 1), vI (p 2), vI (p 3), vI (p 4), vI (p 5), vI (p 6), vI (p 7), vI (p 8), vI (p 9), vI (p 10), vI (p 11), vI (p 12), vI (p 13), vI (p 14), vI (p 15), vI (p 16), vI (p 17), vI (p 18), vI (p 19), vI (p 20), vI (p 21), V.d (D.bool c), vI (p 22)]) (cV [vI (p 0), vI (p 1), vI (p 2), vI (p 3), vI (p 4), vI (p 5), vI (p 6), vI (p 7), vI (p 8), vI (p 9), vI (p 10), vI (p 11), vI (p 12), vI (p 13), vI (p 14), vI (p 15), vI (p 16), vI (p 17), vI (p 18), vI (p 19), vI (p 20), vI (p 21), V.d (D.bool c), vI (p 22)]) ∧ True) ∧ bif bif !decide (ofE (fun (i : Nat) => iD [D.int IntKind.i64 (l i)]) n = (0 : Int)) then true else !parR (pV [vI (p 0), vI (p 1), vI (p 2), vI (p 3), vI (p 4), vI (p 5), vI (p 6), vI (p 7), vI (p 8), vI (p 9), vI (p 10), vI (p 11), vI (p 12), vI (p 13), vI (p 14), vI (p 15), vI (p 16), vI (p 17), vI (p 18), vI (p 19), vI (p 20), vI (p 21), V.d (D.bool c), vI (p 22)]) (cV [vI (p 0), vI (p 1), vI (p 2), vI (p 3), vI (p 4), vI (p 5), vI (p 6), vI (p 7), vI (p 8), vI (p 9), vI (p 10), vI (p 11), vI (p 12), vI (p 13), vI (p 14), vI (p 15), vI (p 16), vI (p 17), vI (p 18), vI (p 19), vI (p 20), vI (p 21), V.d (D.bool c), vI (p 22)]) then V.tup [V.agg [vI (0 : Int), vI (0 : Int), vI (0 : Int), vI (0 : Int), vI (0 : Int), vI (0 : Int), vI (0 : Int), vI (0 : Int), vI (0 : Int), vI (0 : Int), vI (0 : Int), vI (0 : Int), vI (0 : Int), vI (0 : Int), vI (0 : Int), vI (0 : Int), vI (0 : Int), vI (0 : Int), vI (0 : Int), vI (0 : Int), vI (0 : Int), vI (0 : Int), V.d (D.bool false), vI (0 : Int)], vI (1 : Int)] = woR p c n l else ([vI (p 0), vI (p 1), vI (p 2), vI (p 3), vI (p 4), vI (p 5), vI (p 6), vI (p 7), vI (p 8), vI (p 9), vI (p 10), vI (p 11), vI (p 12), vI (p 13), vI (p 14), vI (p 15), vI (p 16), vI (p 17), vI (p 18), vI (p 19), vI (p 20), vI (p 21), V.d (D.bool c), vI (p 22)] = prL (pV [vI (p 0), vI (p 1), vI (p 2), vI (p 3), vI (p 4), vI (p 5), vI (p 6), vI (p 7), vI (p 8), vI (p 9), vI (p 10), vI (p 11), vI (p 12), vI (p 13), vI (p 14), vI (p 15), vI (p 16), vI (p 17), vI (p 18), vI (p 19), vI (p 20), vI (p 21), V.d (D.bool c), vI (p 22)]) (cV [vI (p 0), vI (p 1), vI (p 2), vI (p 3), vI (p 4), vI (p 5), vI (p 6), vI (p 7), vI (p 8), vI (p 9), vI (p 10), vI (p 11), vI (p 12), vI (p 13), vI (p 14), vI (p 15), vI (p 16), vI (p 17), vI (p 18), vI (p 19), vI (p 20), vI (p 21), V.d (D.bool c), vI (p 22)]) ∧ [vI (0 : Int), vI (0 : Int), vI (0 : Int), vI (0 : Int), vI (0 : Int), vI (0 : Int), vI (0 : Int), vI (0 : Int), vI (0 : Int), vI (0 : Int), vI (0 : Int), vI (0 : Int), vI (0 : Int), vI (0 : Int), vI (0 : Int), vI (0 : Int), vI (0 : Int), vI (0 : Int), vI (0 : Int), vI (0 : Int), vI (0 : Int), vI (0 : Int), V.d (D.bool false), vI (0 : Int)] = prL (pV [vI (0 : Int), vI (0 : Int), vI (0 : Int), vI (0 : Int), vI (0 : Int), vI (0 : Int), vI (0 : Int), vI (0 : Int), vI (0 : Int), vI (0 : Int), vI (0 : Int), vI (0 : Int), vI (0 : Int), vI (0 : Int), vI (0 : Int), vI (0 : Int), vI (0 : Int), vI (0 : Int), vI (0 : Int), vI (0 : Int), vI (0 : Int), vI (0 : Int), V.d (D.bool false), vI (0 : Int)]) (cV [vI (0 : Int), vI (0 : Int), vI (0 : Int), vI (0 : Int), vI (0 : Int), vI (0 : Int), vI (0 : Int), vI (0 : Int), vI (0 : Int), vI (0 : Int), vI (0 : Int), vI (0 : Int), vI (0 : Int), vI (0 : Int), vI (0 : Int), vI (0 : Int), vI (0 : Int), vI (0 : Int), vI (0 : Int), vI (0 : Int), vI (0 : Int), vI (0 : Int), V.d (D.bool false), vI (0 : Int)]) ∧ (1 : Nat) = (1 : Nat) ∧ (∀ (i : Nat), [D.int IntKind.i64 (l i)] = [D.int IntKind.i64 (iD ((fun (i : Nat) => [D.int IntKind.i64 (l i)]) i))]) ∧ ∀ (i : Nat), i < n → thI (fun (i : Nat) => iD [D.int IntKind.i64 (l i)]) i = true) ∧ V.tup [V.agg [vI (andNotK IntKind.i64 (p 0) (ofV (fun (i : Nat) => iD [D.int IntKind.i64 (l i)]) n)), vI (bif hasK (fun (i : Nat) => iD [D.int IntKind.i64 (l i)]) n (0 : Int) then (0 : Int) else p (1 : Nat)), vI (bif hasK (fun (i : Nat) => iD [D.int IntKind.i64 (l i)]) n (0 : Int) then (0 : Int) else p (2 : Nat)), vI (bif hasK (fun (i : Nat) => iD [D.int IntKind.i64 (l i)]) n (0 : Int) then (0 : Int) else p (3 : Nat)), vI (bif hasK (fun (i : Nat) => iD [D.int IntKind.i64 (l i)]) n (0 : Int) then (0 : Int) else p (4 : Nat)), vI (bif hasK (fun (i : Nat) => iD [D.int IntKind.i64 (l i)]) n (0 : Int) then (0 : Int) else p (5 : Nat)), vI (bif hasK (fun (i : Nat) => iD [D.int IntKind.i64 (l i)]) n (0 : Int) then (0 : Int) else p (6 : Nat)), vI (bif hasK (fun (i : Nat) => iD [D.int IntKind.i64 (l i)]) n (0 : Int) then (0 : Int) else p (7 : Nat)), vI (bif hasK (fun (i : Nat) => iD [D.int IntKind.i64 (l i)]) n (0 : Int) then (0 : Int) else p (8 : Nat)), vI (bif hasK (fun (i : Nat) => iD [D.int IntKind.i64 (l i)]) n (0 : Int) then (0 : Int) else p (9 : Nat)), vI (bif hasK (fun (i : Nat) => iD [D.int IntKind.i64 (l i)]) n (0 : Int) then (0 : Int) else p (10 : Nat)), vI (bif hasK (fun (i : Nat) => iD [D.int IntKind.i64 (l i)]) n (0 : Int) then (0 : Int) else p (11 : Nat)), vI (bif hasK (fun (i : Nat) => iD [D.int IntKind.i64 (l i)]) n (0 : Int) then (0 : Int) else p (12 : Nat)), vI (bif hasK (fun (i : Nat) => iD [D.int IntKind.i64 (l i)]) n (1 : Int) then (0 : Int) else p (13 : Nat)), vI (bif hasK (fun (i : Nat) => iD [D.int IntKind.i64 (l i)]) n (1 : Int) then (0 : Int) else p (14 : Nat)), vI (bif hasK (fun (i : Nat) => iD [D.int IntKind.i64 (l i)]) n (1 : Int) then (0 : Int) else p (15 : Nat)), vI (bif hasK (fun (i : Nat) => iD [D.int IntKind.i64 (l i)]) n (1 : Int) then (0 : Int) else p (16 : Nat)), vI (bif hasK (fun (i : Nat) => iD [D.int IntKind.i64 (l i)]) n (1 : Int) then (0 : Int) else p (17 : Nat)), vI (bif hasK (fun (i : Nat) => iD [D.int IntKind.i64 (l i)]) n (1 : Int) then (0 : Int) else p (18 : Nat)), vI (bif hasK (fun (i : Nat) => iD [D.int IntKind.i64 (l i)]) n (1 : Int) then (0 : Int) else p (19 : Nat)), vI (bif hasK (fun (i : Nat) => iD [D.int IntKind.i64 (l i)]) n (2 : Int) then (0 : Int) else p (20 : Nat)), vI (bif hasK (fun (i : Nat) => iD [D.int IntKind.i64 (l i)]) n (2 : Int) then (0 : Int) else p (21 : Nat)), V.d (D.bool (bif hasK (fun (i : Nat) => iD [D.int IntKind.i64 (l i)]) n (2 : Int) then false else c)), vI (bif hasK (fun (i : Nat) => iD [D.int IntKind.i64 (l i)]) n (3 : Int) then (0 : Int) else p (22 : Nat))], vI (0 : Int)] = woR p c n l) (by as_aux_lemma => kernel_rfl) ?_
  have eI : (fun i => iD [D.int .i64 (l i)]) = l := rfl
  have eP : parR (pV (prL p c)) (cV (prL p c)) = parR p c := rfl
  unfold prL vi vb at eP
  rw [eI, eP]
  refine ⟨⟨rfl, fun _ => rfl⟩, ?_⟩
  have hE : ofE l n = bif allN n (thI l) then 0 else 1 := rfl
  have hV : ofV l n = bif allN n (thI l) then setK l n else 0 := rfl
  rw [hE, hV]
  cases hT : allN n (thI l)
  · refine ⟨trivial, ?_⟩
    have : woB p c n l = true := by unfold woB; rw [hT]; rfl
    unfold woR woL; rw [this]; rfl
  cases hp : parR p c
  · refine ⟨by repeat' (first | exact trivial | exact rfl | refine And.intro ?_ ?_), ?_⟩
    have : woB p c n l = true := by unfold woB; rw [hT, hp]; rfl
    unfold woR woL; rw [this]; rfl
  refine ⟨by repeat' (first | exact trivial | exact rfl | refine And.intro ?_ ?_), ?_⟩
  have : woB p c n l = false := by unfold woB; rw [hT, hp]; rfl
  unfold woR woL; rw [this]
  exact ⟨⟨rfl, rfl, rfl, fun _ => rfl, allN_iff.1 hT⟩, rfl⟩
end Go.Proofs.Ythkoinngmcpjgaa
