/-
  The law of keys' order: what the code comes to. Conditions: none.
-/
import Derived.Test.YtkepmkdnmmofmaaKeyB
import Derived.Test.YtkepmkdnmmofmaaX15
set_option linter.unusedVariables false
set_option linter.unusedSimpArgs false
set_option maxRecDepth 20000
namespace Go.Proofs.Ytkepmkdnmmofmaa
open Oc
set_option maxRecDepth 100000
theorem al16 : Fn E 53 [] (vb true) :=
  Fn.of_vc (ok53.plain (some 70)) eqs_ok (csN_ok (un := some 70) fns_ok eqs_ok (csP_ok PtOk.nil) 10) rfl rfl rfl (by kernel_rfl) fun hr => vc_eq (vb true) (by kernel_rfl)
noncomputable def ptK : List (Nat × (List V → Option (List Ob × V))) := [
  (56, fun xs => match xs with | [.d (.int .i64 x)] => some ([], vi (lvlE x)) | _ => none),
  (52, fun xs => match xs with | [.agg [.d (.int .i64 p), .d (.int .i64 v), .d (.bool c), .d (.int .i64 pi), .d (.int .i64 ma), .d (.int .i64 me), .d (.int .i64 de)]] => some ([], .tup [vu (bif rightE ⟨p, v, c, pi, ma, me, de⟩ then keyE ⟨p, v, c, pi, ma, me, de⟩ else 0), vi (bif rightE ⟨p, v, c, pi, ma, me, de⟩ then 0 else 1)]) | _ => none),
  (55, fun xs => match xs with | [.d (.int .u64 k)] => some ([], .tup [.agg [vi (unP k), vi (unV k), vb (unCl k), vi (unPi k), vi (unMa k), vi (unMe k), vi (unDe k)], vi (unE k)]) | _ => none),
  (54, fun xs => match xs with | [.agg [.d (.int .i64 p), .d (.int .i64 v), .d (.bool c), .d (.int .i64 pi), .d (.int .i64 ma), .d (.int .i64 me), .d (.int .i64 de)], .agg [.d (.int .i64 p'), .d (.int .i64 v'), .d (.bool c'), .d (.int .i64 pi'), .d (.int .i64 ma'), .d (.int .i64 me'), .d (.int .i64 de')]] => some ([], vb (lessE ⟨p, v, c, pi, ma, me, de⟩ ⟨p', v', c', pi', ma', me', de'⟩)) | _ => none),
  (53, fun xs => match xs with | [] => some ([], vb true) | _ => none)]
theorem ptK_ok : PtOk E ptK := by
  refine PtOk.cons ok56.en (fun args l r h _ => ?_) (PtOk.cons ok52.en (fun args l r h _ => ?_) (PtOk.cons ok55.en (fun args l r h _ => ?_) (PtOk.cons ok54.en (fun args l r h _ => ?_) (PtOk.cons ok53.en (fun args l r h _ => ?_) PtOk.nil))))
  all_goals split at h
  · cases h; exact lvl_fn _
  · cases h
  · cases h; exact pk_fn ⟨_, _, _, _, _, _, _⟩
  · cases h
  · cases h; exact un_fn _
  · cases h
  · cases h; exact less_fn _ _ _ _ _ _ _ _ _ _ _ _ _ _
  · cases h
  · cases h; exact al16
  · cases h
noncomputable def csK : Cs := csN E.tab eqs fns none (csP ptK) 10
theorem csK_ok : CsOk E csK := csN_ok fns_ok eqs_ok (csP_ok ptK_ok) 10
structure Dec (p v : Int) (c : Bool) (pi ma me de k : Int) : Prop where
  P : unP k = p
  V : unV k = v
  C : unCl k = c
  Pi : unPi k = pi
  Ma : unMa k = ma
  Me : unMe k = me
  De : unDe k = (lvlE de - 8388608) * 256
  E : unE k = 0
theorem dec (p v : Int) (c : Bool) (pi ma me de : Int) (h : rightE ⟨p, v, c, pi, ma, me, de⟩ = true) : Dec p v c pi ma me de (keyE ⟨p, v, c, pi, ma, me, de⟩) := by
  obtain ⟨b1, b2, b3, b4, b5, b6, b7, b8, b9, b10⟩ := (right_iff _).1 h
  dsimp only at b1 b2 b3 b4 b5 b6 b7 b8 b9 b10
  have hl := lvlE_r de
  cases c
  · simp only [keyE, keyF]
    generalize hL : lvlE de = L at *
    have e2 : ∃ k, k = (((((p * 4 + v) * 2) * 64 + pi) * 256 + ma) * 256 + me) * 16777216 + L := ⟨_, rfl⟩
    obtain ⟨k, hk⟩ := e2
    rw [← hk]
    have ho : unOk k = true := by unfold unOk; rw [decide_eq_true_eq]; omega
    have hc : unC k = false := by unfold unC; rw [decide_eq_false_iff_not]; omega
    constructor <;> simp only [unP, unV, unCl, unPi, unMa, unMe, unDe, unE, ho, hc, hL, cond_true, cond_false, Bool.and_false] <;> omega
  · simp only [keyE, keyT]
    generalize hL : lvlE de = L at *
    have e2 : ∃ k, k = (((((p * 4 + v) * 2 + 1) * 16777216 + (16777215 - L)) * 64 + pi) * 256 + ma) * 256 + me := ⟨_, rfl⟩
    obtain ⟨k, hk⟩ := e2
    rw [← hk]
    have ho : unOk k = true := by unfold unOk; rw [decide_eq_true_eq]; omega
    have hc : unC k = true := by unfold unC; rw [decide_eq_true_eq]; omega
    constructor <;> simp only [unP, unV, unCl, unPi, unMa, unMe, unDe, unE, ho, hc, hL, cond_true, cond_false, Bool.and_true] <;> omega
theorem lvl_back (x : Int) : lvlE ((lvlE x - 8388608) * 256) = lvlE x := by unfold lvlE; omega
theorem lvl_le (x : Int) (h : lvlE x ≠ 0) : (lvlE x - 8388608) * 256 ≤ x := by unfold lvlE at *; omega
theorem less_key (p v : Int) (c : Bool) (pi ma me de p' v' : Int) (c' : Bool) (pi' ma' me' de' : Int) (h : rightE ⟨p, v, c, pi, ma, me, de⟩ = true) (h' : rightE ⟨p', v', c', pi', ma', me', de'⟩ = true) :
    lessE ⟨p, v, c, pi, ma, me, de⟩ ⟨p', v', c', pi', ma', me', de'⟩ = ltZ (keyE ⟨p, v, c, pi, ma, me, de⟩) (keyE ⟨p', v', c', pi', ma', me', de'⟩) := by
  obtain ⟨b1, b2, b3, b4, b5, b6, b7, b8, b9, b10⟩ := (right_iff _).1 h
  obtain ⟨d1, d2, d3, d4, d5, d6, d7, d8, d9, d10⟩ := (right_iff _).1 h'
  dsimp only at b1 b2 b3 b4 b5 b6 b7 b8 b9 b10 d1 d2 d3 d4 d5 d6 d7 d8 d9 d10
  have hl := lvlE_r de
  have hl' := lvlE_r de'
  have step : ∀ (a b : Int) (r q : List Int) (z : Bool), (a = b → lx r q = z) → (a ≠ b → decide (a < b) = z) → lx (a :: r) (b :: q) = z := fun a b r q z h1 h2 => by
    by_cases e : a = b
    · simp only [lx, e, decide_true, cond_true]; exact h1 e
    · simp only [lx, e, decide_false, cond_false]; exact h2 e
  have last : ∀ z : Bool, false = z → lx [] [] = z := fun z h => by simpa [lx] using h
  unfold lessE
  generalize hL : lvlE de = L at *
  generalize hL' : lvlE de' = L' at *
  cases c <;> cases c' <;> simp only [fldE, keyE, keyT, keyF, ltZ_eq, hL, hL']
  · refine step _ _ _ _ _ (fun h => ?_) (fun h => by rw [decide_eq_decide]; omega)
    refine step _ _ _ _ _ (fun h => ?_) (fun h => by rw [decide_eq_decide]; omega)
    refine step _ _ _ _ _ (fun h => ?_) (fun h => by omega)
    refine step _ _ _ _ _ (fun h => ?_) (fun h => by rw [decide_eq_decide]; omega)
    refine step _ _ _ _ _ (fun h => ?_) (fun h => by rw [decide_eq_decide]; omega)
    refine step _ _ _ _ _ (fun h => ?_) (fun h => by rw [decide_eq_decide]; omega)
    refine step _ _ _ _ _ (fun h => ?_) (fun h => by rw [decide_eq_decide]; omega)
    refine last _ ?_; symm; rw [decide_eq_false_iff_not]; omega
  · refine step _ _ _ _ _ (fun h => ?_) (fun h => by rw [decide_eq_decide]; omega)
    refine step _ _ _ _ _ (fun h => ?_) (fun h => by rw [decide_eq_decide]; omega)
    refine step _ _ _ _ _ (fun h => by omega) (fun h => ?_)
    rw [decide_eq_decide]; omega
  · refine step _ _ _ _ _ (fun h => ?_) (fun h => by rw [decide_eq_decide]; omega)
    refine step _ _ _ _ _ (fun h => ?_) (fun h => by rw [decide_eq_decide]; omega)
    refine step _ _ _ _ _ (fun h => by omega) (fun h => ?_)
    rw [decide_eq_decide]; omega
  · refine step _ _ _ _ _ (fun h => ?_) (fun h => by rw [decide_eq_decide]; omega)
    refine step _ _ _ _ _ (fun h => ?_) (fun h => by rw [decide_eq_decide]; omega)
    refine step _ _ _ _ _ (fun h => ?_) (fun h => by omega)
    refine step _ _ _ _ _ (fun h => ?_) (fun h => by rw [decide_eq_decide]; omega)
    refine step _ _ _ _ _ (fun h => ?_) (fun h => by rw [decide_eq_decide]; omega)
    refine step _ _ _ _ _ (fun h => ?_) (fun h => by rw [decide_eq_decide]; omega)
    refine step _ _ _ _ _ (fun h => ?_) (fun h => by rw [decide_eq_decide]; omega)
    refine last _ ?_; symm; rw [decide_eq_false_iff_not]; omega
theorem order_fn (a b : Dr) : Fn E 13 [a.V, b.V] (vb true) := by
  obtain ⟨p, v, c, pi, ma, me, de⟩ := a
  obtain ⟨p', v', c', pi', ma', me', de'⟩ := b
  show Fn E 13 [.agg [vi p, vi v, vb c, vi pi, vi ma, vi me, vi de], .agg [vi p', vi v', vb c', vi pi', vi ma', vi me', vi de']] (vb true)
  refine Fn.of_vc (ok13.tune 70 [72] []) eqs_ok csK_ok rfl rfl rfl (by kernel_rfl) fun hr => ?_
  refine @vc_of _ (bif bif !decide ((bif rightE { p := p, v := v, c := c, pi := pi, ma := ma, me := me, de := de } then (0 : Int) else (1 : Int)) = (0 : Int)) then true else bif false then true else !decide ((bif rightE { p := p', v := v', c := c', pi := pi', ma := ma', me := me', de := de' } then (0 : Int) else (1 : Int)) = (0 : Int)) then V.d (D.bool true) = vb true else bif !decide (lessE { p := p, v := v, c := c, pi := pi, ma := ma, me := me, de := de } { p := p', v := v', c := c', pi := pi', ma := ma', me := me', de := de' } = ltZ (bif rightE { p := p, v := v, c := c, pi := pi, ma := ma, me := me, de := de } then keyE { p := p, v := v, c := c, pi := pi, ma := ma, me := me, de := de } else (0 : Int)) (bif rightE { p := p', v := v', c := c', pi := pi', ma := ma', me := me', de := de' } then keyE { p := p', v := v', c := c', pi := pi', ma := ma', me := me', de := de' } else (0 : Int))) then V.d (D.bool false) = vb true else bif bif !decide (unE (bif rightE { p := p, v := v, c := c, pi := pi, ma := ma, me := me, de := de } then keyE { p := p, v := v, c := c, pi := pi, ma := ma, me := me, de := de } else (0 : Int)) = (0 : Int)) then true else bif bif false then true else !decide ((bif rightE { p := unP (bif rightE { p := p, v := v, c := c, pi := pi, ma := ma, me := me, de := de } then keyE { p := p, v := v, c := c, pi := pi, ma := ma, me := me, de := de } else (0 : Int)), v := unV (bif rightE { p := p, v := v, c := c, pi := pi, ma := ma, me := me, de := de } then keyE { p := p, v := v, c := c, pi := pi, ma := ma, me := me, de := de } else (0 : Int)), c := unCl (bif rightE { p := p, v := v, c := c, pi := pi, ma := ma, me := me, de := de } then keyE { p := p, v := v, c := c, pi := pi, ma := ma, me := me, de := de } else (0 : Int)), pi := unPi (bif rightE { p := p, v := v, c := c, pi := pi, ma := ma, me := me, de := de } then keyE { p := p, v := v, c := c, pi := pi, ma := ma, me := me, de := de } else (0 : Int)), ma := unMa (bif rightE { p := p, v := v, c := c, pi := pi, ma := ma, me := me, de := de } then keyE { p := p, v := v, c := c, pi := pi, ma := ma, me := me, de := de } else (0 : Int)), me := unMe (bif rightE { p := p, v := v, c := c, pi := pi, ma := ma, me := me, de := de } then keyE { p := p, v := v, c := c, pi := pi, ma := ma, me := me, de := de } else (0 : Int)), de := unDe (bif rightE { p := p, v := v, c := c, pi := pi, ma := ma, me := me, de := de } then keyE { p := p, v := v, c := c, pi := pi, ma := ma, me := me, de := de } else (0 : Int)) } then (0 : Int) else (1 : Int)) = (0 : Int)) then true else bif bif false then true else !decide ((bif rightE { p := unP (bif rightE { p := p, v := v, c := c, pi := pi, ma := ma, me := me, de := de } then keyE { p := p, v := v, c := c, pi := pi, ma := ma, me := me, de := de } else (0 : Int)), v := unV (bif rightE { p := p, v := v, c := c, pi := pi, ma := ma, me := me, de := de } then keyE { p := p, v := v, c := c, pi := pi, ma := ma, me := me, de := de } else (0 : Int)), c := unCl (bif rightE { p := p, v := v, c := c, pi := pi, ma := ma, me := me, de := de } then keyE { p := p, v := v, c := c, pi := pi, ma := ma, me := me, de := de } else (0 : Int)), pi := unPi (bif rightE { p := p, v := v, c := c, pi := pi, ma := ma, me := me, de := de } then keyE { p := p, v := v, c := c, pi := pi, ma := ma, me := me, de := de } else (0 : Int)), ma := unMa (bif rightE { p := p, v := v, c := c, pi := pi, ma := ma, me := me, de := de } then keyE { p := p, v := v, c := c, pi := pi, ma := ma, me := me, de := de } else (0 : Int)), me := unMe (bif rightE { p := p, v := v, c := c, pi := pi, ma := ma, me := me, de := de } then keyE { p := p, v := v, c := c, pi := pi, ma := ma, me := me, de := de } else (0 : Int)), de := unDe (bif rightE { p := p, v := v, c := c, pi := pi, ma := ma, me := me, de := de } then keyE { p := p, v := v, c := c, pi := pi, ma := ma, me := me, de := de } else (0 : Int)) } then keyE { p := unP (bif rightE { p := p, v := v, c := c, pi := pi, ma := ma, me := me, de := de } then keyE { p := p, v := v, c := c, pi := pi, ma := ma, me := me, de := de } else (0 : Int)), v := unV (bif rightE { p := p, v := v, c := c, pi := pi, ma := ma, me := me, de := de } then keyE { p := p, v := v, c := c, pi := pi, ma := ma, me := me, de := de } else (0 : Int)), c := unCl (bif rightE { p := p, v := v, c := c, pi := pi, ma := ma, me := me, de := de } then keyE { p := p, v := v, c := c, pi := pi, ma := ma, me := me, de := de } else (0 : Int)), pi := unPi (bif rightE { p := p, v := v, c := c, pi := pi, ma := ma, me := me, de := de } then keyE { p := p, v := v, c := c, pi := pi, ma := ma, me := me, de := de } else (0 : Int)), ma := unMa (bif rightE { p := p, v := v, c := c, pi := pi, ma := ma, me := me, de := de } then keyE { p := p, v := v, c := c, pi := pi, ma := ma, me := me, de := de } else (0 : Int)), me := unMe (bif rightE { p := p, v := v, c := c, pi := pi, ma := ma, me := me, de := de } then keyE { p := p, v := v, c := c, pi := pi, ma := ma, me := me, de := de } else (0 : Int)), de := unDe (bif rightE { p := p, v := v, c := c, pi := pi, ma := ma, me := me, de := de } then keyE { p := p, v := v, c := c, pi := pi, ma := ma, me := me, de := de } else (0 : Int)) } else (0 : Int)) = bif rightE { p := p, v := v, c := c, pi := pi, ma := ma, me := me, de := de } then keyE { p := p, v := v, c := c, pi := pi, ma := ma, me := me, de := de } else (0 : Int)) then true else bif false then true else !decide (lvlE (unDe (bif rightE { p := p, v := v, c := c, pi := pi, ma := ma, me := me, de := de } then keyE { p := p, v := v, c := c, pi := pi, ma := ma, me := me, de := de } else (0 : Int))) = lvlE de) then V.d (D.bool false) = vb true else V.d (D.bool (bif decide (lvlE de = (0 : Int)) then true else bif true then bif false then true else leZ (unDe (bif rightE { p := p, v := v, c := c, pi := pi, ma := ma, me := me, de := de } then keyE { p := p, v := v, c := c, pi := pi, ma := ma, me := me, de := de } else (0 : Int))) de else false)) = vb true) (by kernel_rfl) ?_
  cases h : rightE ⟨p, v, c, pi, ma, me, de⟩
  · rfl
  cases h' : rightE ⟨p', v', c', pi', ma', me', de'⟩
  · rfl
  have hl := less_key p v c pi ma me de p' v' c' pi' ma' me' de' h h'
  obtain ⟨e1, e2, e3, e4, e5, e6, e7, e8⟩ := dec p v c pi ma me de h
  simp only [cond_true, hl, e1, e2, e3, e4, e5, e6, e7, e8, lvl_back]
  have r2 : rightE ⟨p, v, c, pi, ma, me, (lvlE de - 8388608) * 256⟩ = true := h
  have k2 : keyE ⟨p, v, c, pi, ma, me, (lvlE de - 8388608) * 256⟩ = keyE ⟨p, v, c, pi, ma, me, de⟩ := by simp only [keyE, lvl_back]
  simp only [r2, k2, cond_true, cond_false, decide_true, Bool.not_true, leZ_eq]
  have e : ∀ b : Bool, b = true → V.d (D.bool b) = vb true := fun b h => congrArg vb h
  apply e
  by_cases h0 : lvlE de = 0
  · simp only [h0, decide_true, cond_true]
  · simp only [h0, decide_false, cond_false, decide_eq_true_eq]
    exact lvl_le de h0
theorem order_law : ∀ xs, OfVs E.tab 8 [75, 75] xs → Call E 13 xs ⟨0, []⟩ (fun r _ => r = vb true) :=
  law_all (P' := ∀ (p v : Int) (c : Bool) (pi ma me de p' v' : Int) (c' : Bool) (pi' ma' me' de' : Int), Fn E 13 [.agg [vi p, vi v, vb c, vi pi, vi ma, vi me, vi de], .agg [vi p', vi v', vb c', vi pi', vi ma', vi me', vi de']] (vb true)) (by kernel_rfl) (by kernel_rfl)
    fun p v c pi ma me de p' v' c' pi' ma' me' de' => order_fn ⟨p, v, c, pi, ma, me, de⟩ ⟨p', v', c', pi', ma', me', de'⟩
end Go.Proofs.Ytkepmkdnmmofmaa
