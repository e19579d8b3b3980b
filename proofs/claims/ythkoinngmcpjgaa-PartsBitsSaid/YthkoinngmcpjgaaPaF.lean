/-
  Parts that may be: what the code comes to. Conditions: none.
-/
import Derived.Test.YthkoinngmcpjgaaPaE
set_option linter.unusedVariables false
set_option linter.unusedSimpArgs false
set_option maxRecDepth 20000
namespace Go.Proofs.Ythkoinngmcpjgaa
open Oc
set_option maxRecDepth 100000
def lay1 (h : Bool) (x y : V) : V := match x, y with
  | .d (.int .i64 a), .d (.int .i64 b) => vi (bif h then b else a)
  | .d (.bool a), .d (.bool b) => vb (bif h then b else a)
  | x, _ => x
def zipL : List Bool → List V → List V → List V
  | h :: hs, x :: l, y :: m => lay1 h x y :: zipL hs l m
  | _, _, _ => []
def layL (h0 h1 h2 h3 : Bool) (l m : List V) : List V := match l, m with
  | x :: l, _ :: m => x :: zipL [h0, h0, h0, h0, h0, h0, h0, h0, h0, h0, h0, h0, h1, h1, h1, h1, h1, h1, h1, h2, h2, h2, h3] l m
  | _, _ => []
def v1 : V → Int | .d (.int .i64 a) => a | _ => 0
def vB : V → Bool | .d (.bool b) => b | _ => false
def nV (l : List V) (i : Nat) : V := match l, i with | [], _ => vi 0 | x :: _, 0 => x | _ :: l, i + 1 => nV l i
/-- The numbers of parts. -/
def pV (l : List V) (i : Nat) : Int := v1 (nV l (bif Nat.beq i 22 then 23 else i))
def cV (l : List V) : Bool := vB (nV l 22)
def okP (l : List V) : Prop := l = prL (pV l) (cV l)
theorem okP_x {l : List V} (h : okP l) : ∃ p c, l = prL p c := ⟨_, _, h⟩
noncomputable def ptF : List (Nat × (List V → Option (List Ob × V))) := (77, fun xs => match xs with
    | [.agg l, .agg m, .d (.rows n e f)] => some ([.p (okP l ∧ okP m ∧ e = 1 ∧ (∀ i, f i = [.int .i64 (iD (f i))]) ∧ ∀ i, i < n → thI (fun i => iD (f i)) i = true)], .agg (layL (hasK (fun i => iD (f i)) n 0) (hasK (fun i => iD (f i)) n 1) (hasK (fun i => iD (f i)) n 2) (hasK (fun i => iD (f i)) n 3) l m))
    | _ => none) ::
  (78, fun xs => match xs with
    | [.agg l, .agg m, .d (.int .i64 k)] => some ([.p (okP l ∧ okP m)], .agg (layL (decide (k = 0)) (decide (k = 1)) (decide (k = 2)) (decide (k = 3)) l m))
    | _ => none) ::
  (36, fun xs => match xs with
    | [.d (.int .i64 s)] => some ([], .d (.rows (cK s 5) 1 fun i => [.int .i64 (gK s 5 i)]))
    | _ => none) ::
  (81, fun xs => match xs with
    | [.d (.lst 1 [.int .i64 a, .int .i64 b, .int .i64 c, .int .i64 x, .int .i64 y, .int .i64 z])] => some ([], vb (bxR a b c x y z))
    | _ => none) ::
  (83, fun xs => match xs with
    | [.agg [.d (.int .i64 a), .d (.int .i64 b), .d (.int .i64 c), .d (.int .i64 x), .d (.int .i64 y), .d (.int .i64 z)]] => some ([], vb (bxR a b c x y z))
    | _ => none) :: ptE
theorem ptF_ok : PtOk E ptF := by
  refine PtOk.cons ok77.en (fun args l r e hl => ?_) (PtOk.cons ok78.en (fun args l r e hl => ?_) (PtOk.cons ok36.en (fun args l r e hl => ?_) (PtOk.cons ok81.en (fun args l r e hl => ?_) (PtOk.cons ok83.en (fun args l r e hl => ?_) (ptE_ok)))))
  · split at e
    · rename_i l' m n e' f; cases e; obtain ⟨ol, om, rfl, h, h2⟩ := (obsL_cons hl).1; obtain ⟨p, c, rfl⟩ := okP_x ol; obtain ⟨q, d, rfl⟩ := okP_x om; have := lay_r p c q d n (fun i => iD (f i)) h2; rw [rw_, show (fun i => [D.int .i64 (iD (f i))]) = f from (funext h).symm] at this; exact this
    · cases e
  · split at e
    · rename_i l' m k; cases e; obtain ⟨ol, om⟩ := (obsL_cons hl).1; obtain ⟨p, c, rfl⟩ := okP_x ol; obtain ⟨q, d, rfl⟩ := okP_x om; exact rlay_r p c q d k
    · cases e
  · split at e
    · rename_i s; cases e; exact kinds_r s
    · cases e
  · split at e
    · rename_i a b c x y z; cases e; exact sright1 ..
    · cases e
  · split at e
    · rename_i a b c x y z; cases e; exact rsright ..
    · cases e
noncomputable def csG : Cs := csN E.tab eqs fnL none (csP ptF) 10
theorem csG_ok : CsOk E csG := csN_ok fnL_ok eqs_ok (csP_ok ptF_ok) 10
theorem hasK_ext {l l' : Nat → Int} {n : Nat} {j : Int} (h : ∀ i, i < n → l i = l' i) : hasK l n j = hasK l' n j := by
  induction n with
  | zero => rfl
  | succ n ih => simp only [hasK]; rw [ih fun i hi => h i (by omega), h n (by omega)]
def hasG (s : Int) (k : Nat) (j : Int) : Bool := match k with | 0 => false | k + 1 => hasG s k j || (bitB s k && decide ((k : Int) = j))
theorem gk_has (s : Int) (k : Nat) (j : Int) : hasK (gK s k) (cK s k) j = hasG s k j := by
  induction k with
  | zero => rfl
  | succ k ih =>
    cases hb : bitB s k
    · have e1 : cK s (k + 1) = cK s k := by show (bif bitB s k then _ else _) = _; rw [hb]; rfl
      have e2 : gK s (k + 1) = gK s k := by show (bif bitB s k then _ else _) = _; rw [hb]; rfl
      rw [e1, e2, ih]; show _ = (hasG s k j || (bitB s k && _)); rw [hb, Bool.false_and, Bool.or_false]
    · have e1 : cK s (k + 1) = cK s k + 1 := by show (bif bitB s k then _ else _) = _; rw [hb]; rfl
      have e2 : gK s (k + 1) = fun i => bif Nat.blt i (cK s k) then gK s k i else k := by show (bif bitB s k then _ else _) = _; rw [hb]; rfl
      rw [e1, e2]; show _ = (hasG s k j || (bitB s k && decide ((k : Int) = j))); rw [hb, Bool.true_and]
      simp only [hasK, blt_false (Nat.le_refl (cK s k)), cond_false]
      rw [← ih, hasK_ext (l' := gK s k) fun i hi => by rw [blt_iff.2 hi]; rfl]
theorem gk_th (s : Int) (k : Nat) (hk : k ≤ 5) (i : Nat) (hi : i < cK s k) : thI (gK s k) i = true := by
  induction k with
  | zero => exact absurd hi (Nat.not_lt_zero _)
  | succ k ih =>
    cases hb : bitB s k
    · have e1 : cK s (k + 1) = cK s k := by show (bif bitB s k then _ else _) = _; rw [hb]; rfl
      have e2 : gK s (k + 1) = gK s k := by show (bif bitB s k then _ else _) = _; rw [hb]; rfl
      rw [e1] at hi; rw [e2]; exact ih (by omega) hi
    · have e1 : cK s (k + 1) = cK s k + 1 := by show (bif bitB s k then _ else _) = _; rw [hb]; rfl
      have e2 : gK s (k + 1) = fun i => bif Nat.blt i (cK s k) then gK s k i else k := by show (bif bitB s k then _ else _) = _; rw [hb]; rfl
      rw [e1] at hi; rw [e2]
      rcases Nat.lt_or_ge i (cK s k) with h | h
      · have := ih (by omega) h
        unfold thI at this ⊢
        simp only [blt_iff.2 h, cond_true]; exact this
      · unfold thI
        simp only [blt_false h, cond_false]
        rw [show leZ 0 (k : Int) = true from (by simp only [inI, inRb, loK, hiK, ltZ_eq, leZ_eq, Bool.and_eq_true, decide_eq_true_eq]; omega), show leZ (k : Int) 4 = true from (by simp only [inI, inRb, loK, hiK, ltZ_eq, leZ_eq, Bool.and_eq_true, decide_eq_true_eq]; omega)]; rfl
theorem hasG5 (s : Int) : hasG s 5 0 = bitB s 0 ∧ hasG s 5 1 = bitB s 1 ∧ hasG s 5 2 = bitB s 2 ∧ hasG s 5 3 = bitB s 3 := by
  refine ⟨?_, ?_, ?_, ?_⟩ <;> simp [hasG]
def upB (x m : Int) : Bool := bif leZ 0 x then leZ x m else false
/-- What they lack is naught. -/
def eqL (h0 h1 h2 h3 : Bool) (p : Nat → Int) (c : Bool) : Bool := allB [decide (p 0 = p 0), decide ((bif h0 then 0 else p 1) = p 1), decide ((bif h0 then 0 else p 2) = p 2), decide ((bif h0 then 0 else p 3) = p 3), decide ((bif h0 then 0 else p 4) = p 4), decide ((bif h0 then 0 else p 5) = p 5), decide ((bif h0 then 0 else p 6) = p 6), decide ((bif h0 then 0 else p 7) = p 7), decide ((bif h0 then 0 else p 8) = p 8), decide ((bif h0 then 0 else p 9) = p 9), decide ((bif h0 then 0 else p 10) = p 10), decide ((bif h0 then 0 else p 11) = p 11), decide ((bif h0 then 0 else p 12) = p 12), decide ((bif h1 then 0 else p 13) = p 13), decide ((bif h1 then 0 else p 14) = p 14), decide ((bif h1 then 0 else p 15) = p 15), decide ((bif h1 then 0 else p 16) = p 16), decide ((bif h1 then 0 else p 17) = p 17), decide ((bif h1 then 0 else p 18) = p 18), decide ((bif h1 then 0 else p 19) = p 19), decide ((bif h2 then 0 else p 20) = p 20), decide ((bif h2 then 0 else p 21) = p 21), decide ((bif h2 then false else c) = c), decide ((bif h3 then 0 else p 22) = p 22)]
def rstP (p : Nat → Int) : Bool := rightL [p 1, p 2, p 3, p 4, p 5, p 6, p 7, p 8, p 9, p 10, p 11, p 12] && (bxR (p 14) (p 15) (p 16) (p 17) (p 18) (p 19) && (upB (p 13) 255 && (upB (p 20) 63 && (upB (p 21) 255 && upB (p 22) 255))))
/-- May parts be? -/
def parR (p : Nat → Int) (c : Bool) : Bool := upB (p 0) 31 && (eqL (!bitB (p 0) 0) (!bitB (p 0) 1) (!bitB (p 0) 2) (!bitB (p 0) 3) p c && rstP p)
theorem not_bits {s : Int} (h : upB s 31 = true) : bitB (andNotK .i64 31 s) 0 = !bitB s 0 ∧ bitB (andNotK .i64 31 s) 1 = !bitB s 1 ∧ bitB (andNotK .i64 31 s) 2 = !bitB s 2 ∧ bitB (andNotK .i64 31 s) 3 = !bitB s 3 := by
  have hs : 0 ≤ s ∧ s ≤ 31 := by
    unfold upB at h
    cases h0 : leZ 0 s
    · rw [h0] at h; cases h
    rw [h0] at h
    have h : leZ s 31 = true := h
    simp only [leZ_eq, decide_eq_true_eq] at h0 h
    exact ⟨h0, h⟩
  have e := not_set2 true true true true true (bitB s 0) (bitB s 1) (bitB s 2) (bitB s 3) (bitB s 4)
  rw [← bits_of hs.1 hs.2] at e
  have e1 : setN true true true true true = 31 := rfl
  rw [e1] at e
  rw [e]
  obtain ⟨⟨a0, a1⟩, ⟨a2, a3⟩, _⟩ := bit_set (true && !bitB s 0) (true && !bitB s 1) (true && !bitB s 2) (true && !bitB s 3) (true && !bitB s 4)
  exact ⟨a0.trans (Bool.true_and _), a1.trans (Bool.true_and _), a2.trans (Bool.true_and _), a3.trans (Bool.true_and _)⟩
theorem pright_r (p : Nat → Int) (c : Bool) : Fn E 38 [prt p c] (vb (parR p c)) := by
  refine Fn.of_vc ok38 eqs_ok csG_ok rfl rfl rfl (by first | exact .inl (by as_aux_lemma => kernel_rfl) | exact .inr (by as_aux_lemma => kernel_rfl)) fun hr => ?_
  refine @vc_of _ ((bif !bif leZ (0 : Int) (p 0) then leZ (p 0) (31 : Int) else false then True else ([vI (p 0), vI (p 1), vI (p 2), vI (p 3), vI (p 4), vI (p 5), vI (p 6), vI (p 7), vI (p 8), vI (p 9), vI (p 10), vI (p 11), vI (p 12), vI (p 13), vI (p 14), vI (p 15), vI (p 16), vI (p 17), vI (p 18), vI (p 19), vI (p 20), vI (p 21), V.d (D.bool c), vI (p 22)] = prL (pV [vI (p 0), vI (p 1), vI (p 2), vI (p 3), vI (p 4), vI (p 5), vI (p 6), vI (p 7), vI (p 8), vI (p 9), vI (p 10), vI (p 11), vI (p 12), vI (p 13), vI (p 14), vI (p 15), vI (p 16), vI (p 17), vI (p 18), vI (p 19), vI (p 20), vI (p 21), V.d (D.bool c), vI (p 22)]) (cV [vI (p 0), vI (p 1), vI (p 2), vI (p 3), vI (p 4), vI (p 5), vI (p 6), vI (p 7), vI (p 8), vI (p 9), vI (p 10), vI (p 11), vI (p 12), vI (p 13), vI (p 14), vI (p 15), vI (p 16), vI (p 17), vI (p 18), vI (p 19), vI (p 20), vI (p 21), V.d (D.bool c), vI (p 22)]) ∧ [vI (0 : Int), vI (0 : Int), vI (0 : Int), vI (0 : Int), vI (0 : Int), vI (0 : Int), vI (0 : Int), vI (0 : Int), vI (0 : Int), vI (0 : Int), vI (0 : Int), vI (0 : Int), vI (0 : Int), vI (0 : Int), vI (0 : Int), vI (0 : Int), vI (0 : Int), vI (0 : Int), vI (0 : Int), vI (0 : Int), vI (0 : Int), vI (0 : Int), V.d (D.bool false), vI (0 : Int)] = prL (pV [vI (0 : Int), vI (0 : Int), vI (0 : Int), vI (0 : Int), vI (0 : Int), vI (0 : Int), vI (0 : Int), vI (0 : Int), vI (0 : Int), vI (0 : Int), vI (0 : Int), vI (0 : Int), vI (0 : Int), vI (0 : Int), vI (0 : Int), vI (0 : Int), vI (0 : Int), vI (0 : Int), vI (0 : Int), vI (0 : Int), vI (0 : Int), vI (0 : Int), V.d (D.bool false), vI (0 : Int)]) (cV [vI (0 : Int), vI (0 : Int), vI (0 : Int), vI (0 : Int), vI (0 : Int), vI (0 : Int), vI (0 : Int), vI (0 : Int), vI (0 : Int), vI (0 : Int), vI (0 : Int), vI (0 : Int), vI (0 : Int), vI (0 : Int), vI (0 : Int), vI (0 : Int), vI (0 : Int), vI (0 : Int), vI (0 : Int), vI (0 : Int), vI (0 : Int), vI (0 : Int), V.d (D.bool false), vI (0 : Int)]) ∧ (1 : Nat) = (1 : Nat) ∧ (∀ (i : Nat), [D.int IntKind.i64 (gK (andNotK IntKind.i64 (31 : Int) (p 0)) (5 : Nat) i)] = [D.int IntKind.i64 (iD ((fun (i : Nat) => [D.int IntKind.i64 (gK (andNotK IntKind.i64 (31 : Int) (p 0)) (5 : Nat) i)]) i))]) ∧ ∀ (i : Nat), i < cK (andNotK IntKind.i64 (31 : Int) (p 0)) (5 : Nat) → thI (fun (i : Nat) => iD [D.int IntKind.i64 (gK (andNotK IntKind.i64 (31 : Int) (p 0)) (5 : Nat) i)]) i = true) ∧ True) ∧ bif bif !bif leZ (0 : Int) (p 0) then leZ (p 0) (31 : Int) else false then true else !allB [decide (p (0 : Nat) = p (0 : Nat)), decide ((bif hasK (fun (i : Nat) => iD [D.int IntKind.i64 (gK (andNotK IntKind.i64 (31 : Int) (p 0)) (5 : Nat) i)]) (cK (andNotK IntKind.i64 (31 : Int) (p 0)) (5 : Nat)) (0 : Int) then (0 : Int) else p (1 : Nat)) = p (1 : Nat)), decide ((bif hasK (fun (i : Nat) => iD [D.int IntKind.i64 (gK (andNotK IntKind.i64 (31 : Int) (p 0)) (5 : Nat) i)]) (cK (andNotK IntKind.i64 (31 : Int) (p 0)) (5 : Nat)) (0 : Int) then (0 : Int) else p (2 : Nat)) = p (2 : Nat)), decide ((bif hasK (fun (i : Nat) => iD [D.int IntKind.i64 (gK (andNotK IntKind.i64 (31 : Int) (p 0)) (5 : Nat) i)]) (cK (andNotK IntKind.i64 (31 : Int) (p 0)) (5 : Nat)) (0 : Int) then (0 : Int) else p (3 : Nat)) = p (3 : Nat)), decide ((bif hasK (fun (i : Nat) => iD [D.int IntKind.i64 (gK (andNotK IntKind.i64 (31 : Int) (p 0)) (5 : Nat) i)]) (cK (andNotK IntKind.i64 (31 : Int) (p 0)) (5 : Nat)) (0 : Int) then (0 : Int) else p (4 : Nat)) = p (4 : Nat)), decide ((bif hasK (fun (i : Nat) => iD [D.int IntKind.i64 (gK (andNotK IntKind.i64 (31 : Int) (p 0)) (5 : Nat) i)]) (cK (andNotK IntKind.i64 (31 : Int) (p 0)) (5 : Nat)) (0 : Int) then (0 : Int) else p (5 : Nat)) = p (5 : Nat)), decide ((bif hasK (fun (i : Nat) => iD [D.int IntKind.i64 (gK (andNotK IntKind.i64 (31 : Int) (p 0)) (5 : Nat) i)]) (cK (andNotK IntKind.i64 (31 : Int) (p 0)) (5 : Nat)) (0 : Int) then (0 : Int) else p (6 : Nat)) = p (6 : Nat)), decide ((bif hasK (fun (i : Nat) => iD [D.int IntKind.i64 (gK (andNotK IntKind.i64 (31 : Int) (p 0)) (5 : Nat) i)]) (cK (andNotK IntKind.i64 (31 : Int) (p 0)) (5 : Nat)) (0 : Int) then (0 : Int) else p (7 : Nat)) = p (7 : Nat)), decide ((bif hasK (fun (i : Nat) => iD [D.int IntKind.i64 (gK (andNotK IntKind.i64 (31 : Int) (p 0)) (5 : Nat) i)]) (cK (andNotK IntKind.i64 (31 : Int) (p 0)) (5 : Nat)) (0 : Int) then (0 : Int) else p (8 : Nat)) = p (8 : Nat)), decide ((bif hasK (fun (i : Nat) => iD [D.int IntKind.i64 (gK (andNotK IntKind.i64 (31 : Int) (p 0)) (5 : Nat) i)]) (cK (andNotK IntKind.i64 (31 : Int) (p 0)) (5 : Nat)) (0 : Int) then (0 : Int) else p (9 : Nat)) = p (9 : Nat)), decide ((bif hasK (fun (i : Nat) => iD [D.int IntKind.i64 (gK (andNotK IntKind.i64 (31 : Int) (p 0)) (5 : Nat) i)]) (cK (andNotK IntKind.i64 (31 : Int) (p 0)) (5 : Nat)) (0 : Int) then (0 : Int) else p (10 : Nat)) = p (10 : Nat)), decide ((bif hasK (fun (i : Nat) => iD [D.int IntKind.i64 (gK (andNotK IntKind.i64 (31 : Int) (p 0)) (5 : Nat) i)]) (cK (andNotK IntKind.i64 (31 : Int) (p 0)) (5 : Nat)) (0 : Int) then (0 : Int) else p (11 : Nat)) = p (11 : Nat)), decide ((bif hasK (fun (i : Nat) => iD [D.int IntKind.i64 (gK (andNotK IntKind.i64 (31 : Int) (p 0)) (5 : Nat) i)]) (cK (andNotK IntKind.i64 (31 : Int) (p 0)) (5 : Nat)) (0 : Int) then (0 : Int) else p (12 : Nat)) = p (12 : Nat)), decide ((bif hasK (fun (i : Nat) => iD [D.int IntKind.i64 (gK (andNotK IntKind.i64 (31 : Int) (p 0)) (5 : Nat) i)]) (cK (andNotK IntKind.i64 (31 : Int) (p 0)) (5 : Nat)) (1 : Int) then (0 : Int) else p (13 : Nat)) = p (13 : Nat)), decide ((bif hasK (fun (i : Nat) => iD [D.int IntKind.i64 (gK (andNotK IntKind.i64 (31 : Int) (p 0)) (5 : Nat) i)]) (cK (andNotK IntKind.i64 (31 : Int) (p 0)) (5 : Nat)) (1 : Int) then (0 : Int) else p (14 : Nat)) = p (14 : Nat)), decide ((bif hasK (fun (i : Nat) => iD [D.int IntKind.i64 (gK (andNotK IntKind.i64 (31 : Int) (p 0)) (5 : Nat) i)]) (cK (andNotK IntKind.i64 (31 : Int) (p 0)) (5 : Nat)) (1 : Int) then (0 : Int) else p (15 : Nat)) = p (15 : Nat)), decide ((bif hasK (fun (i : Nat) => iD [D.int IntKind.i64 (gK (andNotK IntKind.i64 (31 : Int) (p 0)) (5 : Nat) i)]) (cK (andNotK IntKind.i64 (31 : Int) (p 0)) (5 : Nat)) (1 : Int) then (0 : Int) else p (16 : Nat)) = p (16 : Nat)), decide ((bif hasK (fun (i : Nat) => iD [D.int IntKind.i64 (gK (andNotK IntKind.i64 (31 : Int) (p 0)) (5 : Nat) i)]) (cK (andNotK IntKind.i64 (31 : Int) (p 0)) (5 : Nat)) (1 : Int) then (0 : Int) else p (17 : Nat)) = p (17 : Nat)), decide ((bif hasK (fun (i : Nat) => iD [D.int IntKind.i64 (gK (andNotK IntKind.i64 (31 : Int) (p 0)) (5 : Nat) i)]) (cK (andNotK IntKind.i64 (31 : Int) (p 0)) (5 : Nat)) (1 : Int) then (0 : Int) else p (18 : Nat)) = p (18 : Nat)), decide ((bif hasK (fun (i : Nat) => iD [D.int IntKind.i64 (gK (andNotK IntKind.i64 (31 : Int) (p 0)) (5 : Nat) i)]) (cK (andNotK IntKind.i64 (31 : Int) (p 0)) (5 : Nat)) (1 : Int) then (0 : Int) else p (19 : Nat)) = p (19 : Nat)), decide ((bif hasK (fun (i : Nat) => iD [D.int IntKind.i64 (gK (andNotK IntKind.i64 (31 : Int) (p 0)) (5 : Nat) i)]) (cK (andNotK IntKind.i64 (31 : Int) (p 0)) (5 : Nat)) (2 : Int) then (0 : Int) else p (20 : Nat)) = p (20 : Nat)), decide ((bif hasK (fun (i : Nat) => iD [D.int IntKind.i64 (gK (andNotK IntKind.i64 (31 : Int) (p 0)) (5 : Nat) i)]) (cK (andNotK IntKind.i64 (31 : Int) (p 0)) (5 : Nat)) (2 : Int) then (0 : Int) else p (21 : Nat)) = p (21 : Nat)), decide ((bif hasK (fun (i : Nat) => iD [D.int IntKind.i64 (gK (andNotK IntKind.i64 (31 : Int) (p 0)) (5 : Nat) i)]) (cK (andNotK IntKind.i64 (31 : Int) (p 0)) (5 : Nat)) (2 : Int) then false else c) = c), decide ((bif hasK (fun (i : Nat) => iD [D.int IntKind.i64 (gK (andNotK IntKind.i64 (31 : Int) (p 0)) (5 : Nat) i)]) (cK (andNotK IntKind.i64 (31 : Int) (p 0)) (5 : Nat)) (3 : Int) then (0 : Int) else p (22 : Nat)) = p (22 : Nat))] then V.d (D.bool false) = vb (parR p c) else (bif rightL [p (1 : Nat), p (2 : Nat), p (3 : Nat), p (4 : Nat), p (5 : Nat), p (6 : Nat), p (7 : Nat), p (8 : Nat), p (9 : Nat), p (10 : Nat), p (11 : Nat), p (12 : Nat)] then (bif bxR (p 14) (p 15) (p 16) (p 17) (p 18) (p 19) then (bif bif leZ (0 : Int) (p 13) then leZ (p 13) (255 : Int) else false then (bif bif leZ (0 : Int) (p 20) then leZ (p 20) (63 : Int) else false then (bif bif leZ (0 : Int) (p 21) then leZ (p 21) (255 : Int) else false then True else True) ∧ True else True) ∧ True else True) ∧ True else True) ∧ True else True) ∧ V.d (D.bool (bif rightL [p (1 : Nat), p (2 : Nat), p (3 : Nat), p (4 : Nat), p (5 : Nat), p (6 : Nat), p (7 : Nat), p (8 : Nat), p (9 : Nat), p (10 : Nat), p (11 : Nat), p (12 : Nat)] then bif bxR (p 14) (p 15) (p 16) (p 17) (p 18) (p 19) then bif bif leZ (0 : Int) (p 13) then leZ (p 13) (255 : Int) else false then bif bif leZ (0 : Int) (p 20) then leZ (p 20) (63 : Int) else false then bif bif leZ (0 : Int) (p 21) then leZ (p 21) (255 : Int) else false then bif leZ (0 : Int) (p 22) then leZ (p 22) (255 : Int) else false else false else false else false else false else false)) = vb (parR p c)) (by as_aux_lemma => kernel_rfl) ?_
  have eI : ∀ s : Int, (fun i => iD [D.int .i64 (gK s 5 i)]) = gK s 5 := fun s => rfl
  have g := fun j => gk_has (andNotK .i64 31 (p 0)) 5 j
  rw [eI, g 0, g 1, g 2, g 3, (hasG5 _).1, (hasG5 _).2.1, (hasG5 _).2.2.1, (hasG5 _).2.2.2]
  cases hu : upB (p 0) 31
  · have hu' : (bif leZ 0 (p 0) then leZ (p 0) 31 else false) = false := hu
    unfold parR
    rw [hu, hu']
    exact ⟨trivial, rfl⟩
  · have hu' : (bif leZ 0 (p 0) then leZ (p 0) 31 else false) = true := hu
    obtain ⟨b0, b1, b2, b3⟩ := not_bits hu
    unfold parR
    rw [hu, hu', b0, b1, b2, b3]
    refine ⟨by
      show (_ ∧ _ ∧ _ ∧ _ ∧ _) ∧ True
      exact ⟨⟨rfl, rfl, rfl, fun _ => rfl, gk_th _ 5 (Nat.le_refl _)⟩, trivial⟩, ?_⟩
    show (bif !eqL (!bitB (p 0) 0) (!bitB (p 0) 1) (!bitB (p 0) 2) (!bitB (p 0) 3) p c then _ else _)
    have key : ∀ a b : Bool, (bif a then b else false) = (a && b) := fun a b => by cases a <;> rfl
    cases hE : eqL (!bitB (p 0) 0) (!bitB (p 0) 1) (!bitB (p 0) 2) (!bitB (p 0) 3) p c
    · rfl
    · refine ⟨by simp only [tt_, and_true, cond_true, Bool.not_true, cond_false], ?_⟩
      unfold rstP upB
      simp only [key, Bool.true_and]
def okG (p : Nat → Int) (c : Bool) (i : Nat) : Bool := bitB (p 0) i || eqL (decide ((i : Int) = 0)) (decide ((i : Int) = 1)) (decide ((i : Int) = 2)) (decide ((i : Int) = 3)) p c
theorem eqL_all (p : Nat → Int) (c : Bool) (b0 b1 b2 b3 : Bool) : eqL (!b0) (!b1) (!b2) (!b3) p c = ((b0 || eqL true false false false p c) && ((b1 || eqL false true false false p c) && ((b2 || eqL false false true false p c) && (b3 || eqL false false false true p c)))) := by
  cases b0 <;> cases b1 <;> cases b2 <;> cases b3 <;> simp [eqL, allB, Bool.and_assoc]
theorem okG_5 (p : Nat → Int) (c : Bool) : eqL (!bitB (p 0) 0) (!bitB (p 0) 1) (!bitB (p 0) 2) (!bitB (p 0) 3) p c = true ↔ ∀ i, i < 5 → okG p c i = true := by
  rw [eqL_all]
  have e4 : eqL false false false false p c = true := by simp [eqL, allB]
  constructor
  · intro h
    simp only [Bool.and_eq_true] at h
    obtain ⟨h0, h1, h2, h3⟩ := h
    intro i hi
    match i, hi with
    | 0, _ => exact h0
    | 1, _ => exact h1
    | 2, _ => exact h2
    | 3, _ => exact h3
    | 4, _ => show (bitB (p 0) 4 || eqL false false false false p c) = true; rw [e4, Bool.or_true]
  · intro h
    simp only [Bool.and_eq_true]
    exact ⟨h 0 (by decide), h 1 (by decide), h 2 (by decide), h 3 (by decide)⟩
theorem upB_lt (x m : Int) : (bif ltZ x 0 then true else ltZ m x) = !upB x m := by
  rw [lt_le, lt_le]; unfold upB
  cases leZ 0 x <;> cases leZ x m <;> rfl
theorem rright_r (p : Nat → Int) (c : Bool) : Fn E 39 [prt p c] (vb (parR p c)) := by
  refine Fn.of_TS ok39 rfl rfl rfl fun hr => ?_
  refine TS.seq rfl ?_
  refine TS.run [] ok39.ord eqs_ok csG_ok (by repeat (first | exact QF.noPanic | exact QCF.noPanic | refine TSR.noPanic ?_ | refine NoPanic.thenP ?_ | refine NoPanic.inB ?_)) (by first | exact .inl (by as_aux_lemma => kernel_rfl) | exact .inr (by as_aux_lemma => kernel_rfl)) ?_
  refine @vc_of _ (TS E (FnI.nt I39) (0 : Nat) (sub (FnI.code I39) [true]) [((1 : Nat), V.ptr (0 : Nat) (0 : Nat))] { n := (1 : Nat), b := [((0 : Nat), some (Blk.cells [vI (p 0), vI (p 1), vI (p 2), vI (p 3), vI (p 4), vI (p 5), vI (p 6), vI (p 7), vI (p 8), vI (p 9), vI (p 10), vI (p 11), vI (p 12), vI (p 13), vI (p 14), vI (p 15), vI (p 16), vI (p 17), vI (p 18), vI (p 19), vI (p 20), vI (p 21), V.d (D.bool c), vI (p 22)]))] } (QF (Env.tab E) (FnI.res I39) (vb (parR p c)))) (by as_aux_lemma => kernel_rfl) ?_
  refine TS.seq rfl ?_
  refine TS.seq rfl ?_
  refine TS.run [] ok39.ord eqs_ok csG_ok (by repeat (first | exact QF.noPanic | exact QCF.noPanic | refine TSR.noPanic ?_ | refine NoPanic.thenP ?_ | refine NoPanic.inB ?_)) (by first | exact .inl (by as_aux_lemma => kernel_rfl) | exact .inr (by as_aux_lemma => kernel_rfl)) ?_
  refine @vc_of _ (TS E (FnI.nt I39) (0 : Nat) (sub (FnI.code I39) [true, false, true]) [((1 : Nat), V.ptr (0 : Nat) (selN (ltZ (p 0) (0 : Int)) (0 : Nat) (0 : Nat))), ((14 : Nat), V.d (D.bool (bif ltZ (p 0) (0 : Int) then true else ltZ (31 : Int) (p 0))))] { n := (1 : Nat), b := [((0 : Nat), some (Blk.cells [vI (p 0), vI (p 1), vI (p 2), vI (p 3), vI (p 4), vI (p 5), vI (p 6), vI (p 7), vI (p 8), vI (p 9), vI (p 10), vI (p 11), vI (p 12), vI (p 13), vI (p 14), vI (p 15), vI (p 16), vI (p 17), vI (p 18), vI (p 19), vI (p 20), vI (p 21), V.d (D.bool c), vI (p 22)]))] } (thenP (fun (s' : Slots) (h' : Hp) => TS E (FnI.nt I39) (0 : Nat) (sub (FnI.code I39) ([true] ++ [true])) s' h' (QF (Env.tab E) (FnI.res I39) (vb (parR p c)))) (QF (Env.tab E) (FnI.res I39) (vb (parR p c))))) (by as_aux_lemma => kernel_rfl) ?_
  refine TS.run [] ok39.ord eqs_ok csG_ok (by repeat (first | exact QF.noPanic | exact QCF.noPanic | refine TSR.noPanic ?_ | refine NoPanic.thenP ?_ | refine NoPanic.inB ?_)) (by first | exact .inl (by as_aux_lemma => kernel_rfl) | exact .inr (by as_aux_lemma => kernel_rfl)) ?_
  refine @vc_of _ (bif bif ltZ (p 0) (0 : Int) then true else ltZ (31 : Int) (p 0) then V.d (D.bool false) = vb (parR p c) else TS E (FnI.nt I39) (0 : Nat) (sub (FnI.code I39) [true, true]) [((14 : Nat), V.d (D.bool false)), ((1 : Nat), V.ptr (0 : Nat) (selN (ltZ (p 0) (0 : Int)) (0 : Nat) (0 : Nat))), ((14 : Nat), V.d (D.bool (bif ltZ (p 0) (0 : Int) then true else ltZ (31 : Int) (p 0))))] { n := (1 : Nat), b := [((0 : Nat), some (Blk.cells [vI (p 0), vI (p 1), vI (p 2), vI (p 3), vI (p 4), vI (p 5), vI (p 6), vI (p 7), vI (p 8), vI (p 9), vI (p 10), vI (p 11), vI (p 12), vI (p 13), vI (p 14), vI (p 15), vI (p 16), vI (p 17), vI (p 18), vI (p 19), vI (p 20), vI (p 21), V.d (D.bool c), vI (p 22)]))] } (QF (Env.tab E) (FnI.res I39) (vb (parR p c)))) (by as_aux_lemma => kernel_rfl) ?_
  rw [upB_lt]
  refine way_iff.2 ⟨fun hc => ?_, fun hc => ?_⟩
  · rw [Bool.not_eq_true'] at hc; unfold parR; rw [hc]; rfl
  rw [Bool.not_eq_false'] at hc
  refine TS.seq rfl ?_
  refine TS.seq rfl ?_
  refine TS.run [] ok39.ord eqs_ok csG_ok (by repeat (first | exact QF.noPanic | exact QCF.noPanic | refine TSR.noPanic ?_ | refine NoPanic.thenP ?_ | refine NoPanic.inB ?_)) (by first | exact .inl (by as_aux_lemma => kernel_rfl) | exact .inr (by as_aux_lemma => kernel_rfl)) ?_
  refine @vc_of _ (TS E (FnI.nt I39) (0 : Nat) (sub (FnI.code I39) [true, true, false, true]) [((1 : Nat), V.ptr (0 : Nat) (selN (ltZ (p 0) (0 : Int)) (0 : Nat) (0 : Nat))), ((3 : Nat), vI (0 : Int))] { n := (1 : Nat), b := [((0 : Nat), some (Blk.cells [vI (p 0), vI (p 1), vI (p 2), vI (p 3), vI (p 4), vI (p 5), vI (p 6), vI (p 7), vI (p 8), vI (p 9), vI (p 10), vI (p 11), vI (p 12), vI (p 13), vI (p 14), vI (p 15), vI (p 16), vI (p 17), vI (p 18), vI (p 19), vI (p 20), vI (p 21), V.d (D.bool c), vI (p 22)]))] } (thenP (fun (s' : Slots) (h' : Hp) => TS E (FnI.nt I39) (0 : Nat) (sub (FnI.code I39) ([true, true] ++ [true])) s' h' (QF (Env.tab E) (FnI.res I39) (vb (parR p c)))) (QF (Env.tab E) (FnI.res I39) (vb (parR p c))))) (by as_aux_lemma => kernel_rfl) ?_
  refine TS.block (i := 0) rfl ?_
  refine TS.loop (fun k : Nat => [(1, .ptr 0 0), (3, vi k)]) (fun k => ⟨1, [(0, some (.cells (prL p c)))]⟩) (fun k => k ≤ 5 ∧ ∀ i, i < k → okG p c i = true) (fun k => 5 - k) 0 rfl ⟨?_, ?_, rfl, rfl, Nat.zero_le _⟩ (Nat.le_refl _) ⟨Nat.zero_le _, fun i hi => by omega⟩ (fun k hk => ?_)
  · (repeat (first | exact SLe.nil _ | refine SLe.cons rfl (VLe.refl _) ?_))
  · exact BSub.cons rfl (BkLe.refl _) (BSub.nil _)
  obtain ⟨hk1, hk2⟩ := hk
  refine TS.run [] ok39.ord eqs_ok csG_ok (by repeat (first | exact QF.noPanic | exact QCF.noPanic | refine TSR.noPanic ?_ | refine NoPanic.thenP ?_ | refine NoPanic.inB ?_)) (by first | exact .inl (by as_aux_lemma => kernel_rfl) | exact .inr (by as_aux_lemma => kernel_rfl)) ?_
  refine @vc_of _ (bif leZ (↑k : Int) (4 : Int) then (bif !hsB (p 0) (↑k : Int) then ([vI (p 0), vI (p 1), vI (p 2), vI (p 3), vI (p 4), vI (p 5), vI (p 6), vI (p 7), vI (p 8), vI (p 9), vI (p 10), vI (p 11), vI (p 12), vI (p 13), vI (p 14), vI (p 15), vI (p 16), vI (p 17), vI (p 18), vI (p 19), vI (p 20), vI (p 21), V.d (D.bool c), vI (p 22)] = prL (pV [vI (p 0), vI (p 1), vI (p 2), vI (p 3), vI (p 4), vI (p 5), vI (p 6), vI (p 7), vI (p 8), vI (p 9), vI (p 10), vI (p 11), vI (p 12), vI (p 13), vI (p 14), vI (p 15), vI (p 16), vI (p 17), vI (p 18), vI (p 19), vI (p 20), vI (p 21), V.d (D.bool c), vI (p 22)]) (cV [vI (p 0), vI (p 1), vI (p 2), vI (p 3), vI (p 4), vI (p 5), vI (p 6), vI (p 7), vI (p 8), vI (p 9), vI (p 10), vI (p 11), vI (p 12), vI (p 13), vI (p 14), vI (p 15), vI (p 16), vI (p 17), vI (p 18), vI (p 19), vI (p 20), vI (p 21), V.d (D.bool c), vI (p 22)]) ∧ [vI (0 : Int), vI (0 : Int), vI (0 : Int), vI (0 : Int), vI (0 : Int), vI (0 : Int), vI (0 : Int), vI (0 : Int), vI (0 : Int), vI (0 : Int), vI (0 : Int), vI (0 : Int), vI (0 : Int), vI (0 : Int), vI (0 : Int), vI (0 : Int), vI (0 : Int), vI (0 : Int), vI (0 : Int), vI (0 : Int), vI (0 : Int), vI (0 : Int), V.d (D.bool false), vI (0 : Int)] = prL (pV [vI (0 : Int), vI (0 : Int), vI (0 : Int), vI (0 : Int), vI (0 : Int), vI (0 : Int), vI (0 : Int), vI (0 : Int), vI (0 : Int), vI (0 : Int), vI (0 : Int), vI (0 : Int), vI (0 : Int), vI (0 : Int), vI (0 : Int), vI (0 : Int), vI (0 : Int), vI (0 : Int), vI (0 : Int), vI (0 : Int), vI (0 : Int), vI (0 : Int), V.d (D.bool false), vI (0 : Int)]) (cV [vI (0 : Int), vI (0 : Int), vI (0 : Int), vI (0 : Int), vI (0 : Int), vI (0 : Int), vI (0 : Int), vI (0 : Int), vI (0 : Int), vI (0 : Int), vI (0 : Int), vI (0 : Int), vI (0 : Int), vI (0 : Int), vI (0 : Int), vI (0 : Int), vI (0 : Int), vI (0 : Int), vI (0 : Int), vI (0 : Int), vI (0 : Int), vI (0 : Int), V.d (D.bool false), vI (0 : Int)])) ∧ True else True) ∧ bif bif !hsB (p 0) (↑k : Int) then !allB [decide (p (0 : Nat) = p (0 : Nat)), decide ((bif decide ((↑k : Int) = (0 : Int)) then (0 : Int) else p (1 : Nat)) = p (1 : Nat)), decide ((bif decide ((↑k : Int) = (0 : Int)) then (0 : Int) else p (2 : Nat)) = p (2 : Nat)), decide ((bif decide ((↑k : Int) = (0 : Int)) then (0 : Int) else p (3 : Nat)) = p (3 : Nat)), decide ((bif decide ((↑k : Int) = (0 : Int)) then (0 : Int) else p (4 : Nat)) = p (4 : Nat)), decide ((bif decide ((↑k : Int) = (0 : Int)) then (0 : Int) else p (5 : Nat)) = p (5 : Nat)), decide ((bif decide ((↑k : Int) = (0 : Int)) then (0 : Int) else p (6 : Nat)) = p (6 : Nat)), decide ((bif decide ((↑k : Int) = (0 : Int)) then (0 : Int) else p (7 : Nat)) = p (7 : Nat)), decide ((bif decide ((↑k : Int) = (0 : Int)) then (0 : Int) else p (8 : Nat)) = p (8 : Nat)), decide ((bif decide ((↑k : Int) = (0 : Int)) then (0 : Int) else p (9 : Nat)) = p (9 : Nat)), decide ((bif decide ((↑k : Int) = (0 : Int)) then (0 : Int) else p (10 : Nat)) = p (10 : Nat)), decide ((bif decide ((↑k : Int) = (0 : Int)) then (0 : Int) else p (11 : Nat)) = p (11 : Nat)), decide ((bif decide ((↑k : Int) = (0 : Int)) then (0 : Int) else p (12 : Nat)) = p (12 : Nat)), decide ((bif decide ((↑k : Int) = (1 : Int)) then (0 : Int) else p (13 : Nat)) = p (13 : Nat)), decide ((bif decide ((↑k : Int) = (1 : Int)) then (0 : Int) else p (14 : Nat)) = p (14 : Nat)), decide ((bif decide ((↑k : Int) = (1 : Int)) then (0 : Int) else p (15 : Nat)) = p (15 : Nat)), decide ((bif decide ((↑k : Int) = (1 : Int)) then (0 : Int) else p (16 : Nat)) = p (16 : Nat)), decide ((bif decide ((↑k : Int) = (1 : Int)) then (0 : Int) else p (17 : Nat)) = p (17 : Nat)), decide ((bif decide ((↑k : Int) = (1 : Int)) then (0 : Int) else p (18 : Nat)) = p (18 : Nat)), decide ((bif decide ((↑k : Int) = (1 : Int)) then (0 : Int) else p (19 : Nat)) = p (19 : Nat)), decide ((bif decide ((↑k : Int) = (2 : Int)) then (0 : Int) else p (20 : Nat)) = p (20 : Nat)), decide ((bif decide ((↑k : Int) = (2 : Int)) then (0 : Int) else p (21 : Nat)) = p (21 : Nat)), decide ((bif decide ((↑k : Int) = (2 : Int)) then false else c) = c), decide ((bif decide ((↑k : Int) = (3 : Int)) then (0 : Int) else p (22 : Nat)) = p (22 : Nat))] else false then V.d (D.bool false) = vb (parR p c) else bif inRb IntKind.i64 ((↑k : Int) + (1 : Int)) then Again (0 : Nat) (fun (k : Nat) => [((1 : Nat), V.ptr (0 : Nat) (0 : Nat)), ((3 : Nat), vi (↑k : Int))]) (fun (k : Nat) => { n := (1 : Nat), b := [((0 : Nat), some (Blk.cells (prL p c)))] }) (fun (k : Nat) => k ≤ (5 : Nat) ∧ ∀ (i : Nat), i < k → okG p c i = true) (fun (k : Nat) => (5 : Nat) - k) k [((1 : Nat), V.ptr (0 : Nat) (0 : Nat)), ((3 : Nat), vI ((↑k : Int) + (1 : Int))), ((26 : Nat), V.un), ((27 : Nat), V.un), ((28 : Nat), V.un), ((29 : Nat), V.un), ((30 : Nat), V.un), ((31 : Nat), V.un)] { n := (1 : Nat), b := [((0 : Nat), some (Blk.cells [vI (p 0), vI (p 1), vI (p 2), vI (p 3), vI (p 4), vI (p 5), vI (p 6), vI (p 7), vI (p 8), vI (p 9), vI (p 10), vI (p 11), vI (p 12), vI (p 13), vI (p 14), vI (p 15), vI (p 16), vI (p 17), vI (p 18), vI (p 19), vI (p 20), vI (p 21), V.d (D.bool c), vI (p 22)]))] } else False else TS E (FnI.nt I39) (0 : Nat) (sub (FnI.code I39) [true, true, true]) [((16 : Nat), V.d (D.bool false)), ((1 : Nat), V.ptr (0 : Nat) (0 : Nat)), ((3 : Nat), vI (↑k : Int)), ((16 : Nat), V.d (D.bool (leZ (↑k : Int) (4 : Int))))] { n := (1 : Nat), b := [((0 : Nat), some (Blk.cells [vI (p 0), vI (p 1), vI (p 2), vI (p 3), vI (p 4), vI (p 5), vI (p 6), vI (p 7), vI (p 8), vI (p 9), vI (p 10), vI (p 11), vI (p 12), vI (p 13), vI (p 14), vI (p 15), vI (p 16), vI (p 17), vI (p 18), vI (p 19), vI (p 20), vI (p 21), V.d (D.bool c), vI (p 22)]))] } (QF (Env.tab E) (FnI.res I39) (vb (parR p c)))) (by as_aux_lemma => kernel_rfl) ?_
  have ob : ∀ {P Q : Prop}, P → Q → P ∧ (Q ∧ True) ∧ True := fun a b => ⟨a, ⟨b, trivial⟩, trivial⟩
  refine way_iff.2 ⟨fun h4 => ?_, fun h4 => ?_⟩
  · simp only [leZ_eq, decide_eq_true_eq] at h4
    have hk5 : k < 5 := by omega
    have hh : hsB (p 0) (k : Int) = bitB (p 0) k := hs_fin (p 0) ⟨k, hk5⟩
    rw [hh]
    have next : okG p c k = true → ∀ i, i < k + 1 → okG p c i = true := fun hp i hi => by
      rcases Nat.lt_or_ge i k with h | h
      · exact hk2 i h
      · obtain rfl : i = k := by omega
        exact hp
    cases hb : bitB (p 0) k
    · refine ⟨by repeat' (first | exact trivial | exact rfl | refine And.intro ?_ ?_), ?_⟩
      show (bif !eqL (decide ((k : Int) = 0)) (decide ((k : Int) = 1)) (decide ((k : Int) = 2)) (decide ((k : Int) = 3)) p c then _ else _)
      refine way_iff.2 ⟨fun he => ?_, fun he => ?_⟩
      · rw [Bool.not_eq_true'] at he
        have : eqL (!bitB (p 0) 0) (!bitB (p 0) 1) (!bitB (p 0) 2) (!bitB (p 0) 3) p c = false := by
          rw [← Bool.not_eq_true, okG_5]
          intro h
          have := h k hk5
          unfold okG at this; rw [hb, he] at this; cases this
        unfold parR; rw [hc, this]; rfl
      · rw [Bool.not_eq_false'] at he
        refine need_iff.2 ⟨(by simp only [inI, inRb, loK, hiK, ltZ_eq, leZ_eq, Bool.and_eq_true, decide_eq_true_eq]; omega), ?_⟩
        refine ⟨k + 1, ⟨by omega, next (by unfold okG; rw [he, Bool.or_true])⟩, by omega, Nat.le_refl _, ⟨?_, ?_, rfl, rfl, Nat.zero_le _⟩⟩
        · (repeat (first | exact SLe.nil _ | refine SLe.cons rfl (VLe.refl _) ?_))
        · exact BSub.cons rfl (BkLe.refl _) (BSub.nil _)
    · refine ⟨trivial, ?_⟩
      show (bif false then _ else _)
      refine need_iff.2 ⟨(by simp only [inI, inRb, loK, hiK, ltZ_eq, leZ_eq, Bool.and_eq_true, decide_eq_true_eq]; omega), ?_⟩
      refine ⟨k + 1, ⟨by omega, next (by unfold okG; rw [hb, Bool.true_or])⟩, by omega, Nat.le_refl _, ⟨?_, ?_, rfl, rfl, Nat.zero_le _⟩⟩
      · (repeat (first | exact SLe.nil _ | refine SLe.cons rfl (VLe.refl _) ?_))
      · exact BSub.cons rfl (BkLe.refl _) (BSub.nil _)
  · simp only [leZ_eq, decide_eq_false_iff_not] at h4
    obtain rfl : k = 5 := by omega
    have hE := (okG_5 p c).2 hk2
    refine TS.run [] ok39.ord eqs_ok csG_ok (by repeat (first | exact QF.noPanic | exact QCF.noPanic | refine TSR.noPanic ?_ | refine NoPanic.thenP ?_ | refine NoPanic.inB ?_)) (by first | exact .inl (by as_aux_lemma => kernel_rfl) | exact .inr (by as_aux_lemma => kernel_rfl)) ?_
    refine @vc_of _ ((bif rightL [p (1 : Nat), p (2 : Nat), p (3 : Nat), p (4 : Nat), p (5 : Nat), p (6 : Nat), p (7 : Nat), p (8 : Nat), p (9 : Nat), p (10 : Nat), p (11 : Nat), p (12 : Nat)] then (bif bif leZ (0 : Int) (p 13) then leZ (p 13) (255 : Int) else false then (bif bxR (p 14) (p 15) (p 16) (p 17) (p 18) (p 19) then (bif bif leZ (0 : Int) (p 20) then leZ (p 20) (63 : Int) else false then (bif bif leZ (0 : Int) (p 21) then leZ (p 21) (255 : Int) else false then True else True) ∧ True else True) ∧ True else True) ∧ True else True) ∧ True else True) ∧ V.d (D.bool (bif rightL [p (1 : Nat), p (2 : Nat), p (3 : Nat), p (4 : Nat), p (5 : Nat), p (6 : Nat), p (7 : Nat), p (8 : Nat), p (9 : Nat), p (10 : Nat), p (11 : Nat), p (12 : Nat)] then bif bif leZ (0 : Int) (p 13) then leZ (p 13) (255 : Int) else false then bif bxR (p 14) (p 15) (p 16) (p 17) (p 18) (p 19) then bif bif leZ (0 : Int) (p 20) then leZ (p 20) (63 : Int) else false then bif bif leZ (0 : Int) (p 21) then leZ (p 21) (255 : Int) else false then bif leZ (0 : Int) (p 22) then leZ (p 22) (255 : Int) else false else false else false else false else false else false)) = vb (parR p c)) (by as_aux_lemma => kernel_rfl) ?_
    unfold parR; rw [hc, hE]
    have key : ∀ a b : Bool, (bif a then b else false) = (a && b) := fun a b => by cases a <;> rfl
    unfold rstP upB
    simp only [key, Bool.true_and, tt_, true_and, and_true, Bool.and_assoc]
    cases bxR (p 14) (p 15) (p 16) (p 17) (p 18) (p 19) <;> cases leZ 0 (p 13) <;> cases leZ (p 13) 255 <;> rfl
end Go.Proofs.Ythkoinngmcpjgaa
