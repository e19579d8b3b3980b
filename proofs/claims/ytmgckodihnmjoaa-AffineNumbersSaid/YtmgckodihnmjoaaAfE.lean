/-
  The law AffineNumbers: what the code comes to. Conditions: none.
-/
import Derived.Test.YtmgckodihnmjoaaAfF
import Derived.Test.YtmgckodihnmjoaaX15
set_option linter.unusedVariables false
set_option linter.unusedSimpArgs false
set_option maxRecDepth 20000
namespace Go.Proofs.Ytmgckodihnmjoaa
open Oc
set_option maxRecDepth 100000
noncomputable def all8 (l : List V) : Bool := List.rec true (fun d _ ih => match d with | .d (.int .i8 _) => ih | _ => false) l
noncomputable def wholes (l : List V) : List V := List.rec [] (fun d _ ih => vi (65536 * vC d) :: ih) l
noncomputable def matP : List V → Option (List Ob × V) := fun xs => match xs with
  | [.agg l] => match all8 l && Nat.beq l.length 12 with
    | true => some ([], .agg (wholes l))
    | false => none
  | _ => none
theorem all8_ok {l : List V} (h : all8 l = true) : l = List.rec (motive := fun _ => List V) [] (fun x _ ih => V.d (.int .i8 x) :: ih) (intsV l) := by
  induction l with
  | nil => rfl
  | cons d l ih =>
    cases d with
    | d x =>
      cases x with
      | int q x =>
        cases q with
        | i8 => exact congrArg (_ :: ·) (ih h)
        | _ => cases h
      | _ => cases h
    | _ => cases h
theorem matP_ok : ∀ args l r, matP args = some (l, r) → obsL l → Fn E 45 args r := fun args l r e hl => by
  unfold matP at e
  split at e
  · rename_i l
    split at e
    · rename_i hb
      cases e
      obtain ⟨h1, h2⟩ := and_split hb
      have e0 := all8_ok h1
      have hn := Nat.eq_of_beq_eq_true h2
      match l, hn with
      | [c0, c1, c2, c3, c4, c5, c6, c7, c8, c9, c10, c11], _ =>
        have := mat_fn (nthI (intsV [c0, c1, c2, c3, c4, c5, c6, c7, c8, c9, c10, c11]))
        rw [e0]
        exact this
    · cases e
  · cases e
theorem al03 : Fn E 30 [] (vb true) :=
  Fn.of_vc (ok30.plain (some 70)) eqs_ok (csN_ok (un := some 70) fns_ok eqs_ok (csP_ok PtOk.nil) 10) rfl rfl rfl (by first | exact .inl (by as_aux_lemma => kernel_rfl) | exact .inr (by as_aux_lemma => kernel_rfl)) fun hr => vc_eq (vb true) (by as_aux_lemma => kernel_rfl)
noncomputable def ptN : List (Nat × (List V → Option (List Ob × V))) := (32, m2P muE muV) :: (34, mvP apE apV) :: (45, matP) :: (30, fun xs => match xs with | [] => some ([], vb true) | _ => none) :: ptD
theorem ptN_ok : PtOk E ptN := PtOk.cons ok32.en (m2P_ok _ _ mul_fn) (PtOk.cons ok34.en (mvP_ok _ _ app_fn) (PtOk.cons ok45.en matP_ok (PtOk.cons ok30.en (fun args l r h _ => by
  split at h
  · cases h; exact al03
  · cases h) ptD_ok)))
noncomputable def csF : Cs := csN E.tab eqs fns none (csP ptN) 10
theorem csF_ok : CsOk E csF := csN_ok fns_ok eqs_ok (csP_ok ptN_ok) 10
def w36 (w : Nat → Int) : V := .agg [.d (.int .i8 (w 0)), .d (.int .i8 (w 1)), .d (.int .i8 (w 2)), .d (.int .i8 (w 3)), .d (.int .i8 (w 4)), .d (.int .i8 (w 5)), .d (.int .i8 (w 6)), .d (.int .i8 (w 7)), .d (.int .i8 (w 8)), .d (.int .i8 (w 9)), .d (.int .i8 (w 10)), .d (.int .i8 (w 11)), .d (.int .i8 (w 12)), .d (.int .i8 (w 13)), .d (.int .i8 (w 14)), .d (.int .i8 (w 15)), .d (.int .i8 (w 16)), .d (.int .i8 (w 17)), .d (.int .i8 (w 18)), .d (.int .i8 (w 19)), .d (.int .i8 (w 20)), .d (.int .i8 (w 21)), .d (.int .i8 (w 22)), .d (.int .i8 (w 23)), .d (.int .i8 (w 24)), .d (.int .i8 (w 25)), .d (.int .i8 (w 26)), .d (.int .i8 (w 27)), .d (.int .i8 (w 28)), .d (.int .i8 (w 29)), .d (.int .i8 (w 30)), .d (.int .i8 (w 31)), .d (.int .i8 (w 32)), .d (.int .i8 (w 33)), .d (.int .i8 (w 34)), .d (.int .i8 (w 35))]
def mA (w : Nat → Int) (i : Nat) : Int := 65536 * w i
def mB (w : Nat → Int) (i : Nat) : Int := 65536 * w (12 + i)
def mC (w : Nat → Int) (i : Nat) : Int := 65536 * w (24 + i)
def vX (w : Nat → Int) (i : Nat) : Int := 65536 * w (24 + 5 * i)
/-- What the law comes to. -/
def numG (w m v : Nat → Int) : Prop :=
  bif bif decide (muE (mA w) (mB w) = 0) then bif decide (muE (mB w) (mC w) = 0) then bif decide (muE (muV (mA w) (mB w)) (mC w) = 0) then bif decide (muE (mA w) (muV (mB w) (mC w)) = 0) then
    !allB [decide (muV (muV (mA w) (mB w)) (mC w) 0 = muV (mA w) (muV (mB w) (mC w)) 0), decide (muV (muV (mA w) (mB w)) (mC w) 1 = muV (mA w) (muV (mB w) (mC w)) 1), decide (muV (muV (mA w) (mB w)) (mC w) 2 = muV (mA w) (muV (mB w) (mC w)) 2), decide (muV (muV (mA w) (mB w)) (mC w) 3 = muV (mA w) (muV (mB w) (mC w)) 3), decide (muV (muV (mA w) (mB w)) (mC w) 4 = muV (mA w) (muV (mB w) (mC w)) 4), decide (muV (muV (mA w) (mB w)) (mC w) 5 = muV (mA w) (muV (mB w) (mC w)) 5), decide (muV (muV (mA w) (mB w)) (mC w) 6 = muV (mA w) (muV (mB w) (mC w)) 6), decide (muV (muV (mA w) (mB w)) (mC w) 7 = muV (mA w) (muV (mB w) (mC w)) 7), decide (muV (muV (mA w) (mB w)) (mC w) 8 = muV (mA w) (muV (mB w) (mC w)) 8), decide (muV (muV (mA w) (mB w)) (mC w) 9 = muV (mA w) (muV (mB w) (mC w)) 9), decide (muV (muV (mA w) (mB w)) (mC w) 10 = muV (mA w) (muV (mB w) (mC w)) 10), decide (muV (muV (mA w) (mB w)) (mC w) 11 = muV (mA w) (muV (mB w) (mC w)) 11)] else false else false else false else false then V.d (.bool false) = vb true
  else bif bif decide (muE (mA w) (mB w) = 0) then bif decide (apE (muV (mA w) (mB w)) (vX w) = 0) then bif decide (apE (mB w) (vX w) = 0) then bif decide (apE (mA w) (apV (mB w) (vX w)) = 0) then
    !allB [decide (apV (muV (mA w) (mB w)) (vX w) 0 = apV (mA w) (apV (mB w) (vX w)) 0), decide (apV (muV (mA w) (mB w)) (vX w) 1 = apV (mA w) (apV (mB w) (vX w)) 1), decide (apV (muV (mA w) (mB w)) (vX w) 2 = apV (mA w) (apV (mB w) (vX w)) 2)] else false else false else false else false then V.d (.bool false) = vb true
  else bif bif !rightL (l12 m) then true else !rightL (l3_ v) then V.d (.bool true) = vb true
  else V.d (.bool (bif decide (muE sameM m = 0) then bif decide (muE m sameM = 0) then bif decide (apE sameM v = 0) then bif allB [decide (muV sameM m 0 = m 0), decide (muV sameM m 1 = m 1), decide (muV sameM m 2 = m 2), decide (muV sameM m 3 = m 3), decide (muV sameM m 4 = m 4), decide (muV sameM m 5 = m 5), decide (muV sameM m 6 = m 6), decide (muV sameM m 7 = m 7), decide (muV sameM m 8 = m 8), decide (muV sameM m 9 = m 9), decide (muV sameM m 10 = m 10), decide (muV sameM m 11 = m 11)] then bif allB [decide (muV m sameM 0 = m 0), decide (muV m sameM 1 = m 1), decide (muV m sameM 2 = m 2), decide (muV m sameM 3 = m 3), decide (muV m sameM 4 = m 4), decide (muV m sameM 5 = m 5), decide (muV m sameM 6 = m 6), decide (muV m sameM 7 = m 7), decide (muV m sameM 8 = m 8), decide (muV m sameM 9 = m 9), decide (muV m sameM 10 = m 10), decide (muV m sameM 11 = m 11)] then
    allB [decide (apV sameM v 0 = v 0), decide (apV sameM v 1 = v 1), decide (apV sameM v 2 = v 2)] else false else false else false else false else false)) = vb true
theorem num_g (w m v : Nat → Int) : numG w m v := by
  have wA : ∀ j, j < 12 → mA w j = 65536 * w j := fun j _ => rfl
  have wB : ∀ j, j < 12 → mB w j = 65536 * w (12 + j) := fun j _ => rfl
  have wC : ∀ j, j < 12 → mC w j = 65536 * w (24 + j) := fun j _ => rfl
  have wX : ∀ j, j < 3 → vX w j = 65536 * w (24 + 5 * j) := fun j _ => rfl
  unfold numG
  refine way_iff.2 ⟨fun h => ?_, fun h => ?_⟩
  · exfalso
    cases h1 : decide (muE (mA w) (mB w) = 0)
    · rw [h1] at h; cases h
    cases h2 : decide (muE (mB w) (mC w) = 0)
    · rw [h1, h2] at h; cases h
    cases h3 : decide (muE (muV (mA w) (mB w)) (mC w) = 0)
    · rw [h1, h2, h3] at h; cases h
    cases h4 : decide (muE (mA w) (muV (mB w) (mC w)) = 0)
    · rw [h1, h2, h3, h4] at h; cases h
    rw [decide_eq_true_eq] at h1 h2 h3 h4
    have a1 := mu_wh wA wB h1
    have a2 := mu_wh wB wC h2
    have a3 := mu_wh a1 wC h3
    have a4 := mu_wh wA a2 h4
    have e : ∀ j, j < 12 → muV (muV (mA w) (mB w)) (mC w) j = muV (mA w) (muV (mB w) (mC w)) j := fun j hj => by rw [a3 j hj, a4 j hj, wmul_assoc _ _ _ j hj]
    rw [e 0 (by decide), e 1 (by decide), e 2 (by decide), e 3 (by decide), e 4 (by decide), e 5 (by decide), e 6 (by decide), e 7 (by decide), e 8 (by decide), e 9 (by decide), e 10 (by decide), e 11 (by decide)] at h
    simp [allB] at h
  refine way_iff.2 ⟨fun h => ?_, fun h => ?_⟩
  · exfalso
    cases h1 : decide (muE (mA w) (mB w) = 0)
    · rw [h1] at h; cases h
    cases h2 : decide (apE (muV (mA w) (mB w)) (vX w) = 0)
    · rw [h1, h2] at h; cases h
    cases h3 : decide (apE (mB w) (vX w) = 0)
    · rw [h1, h2, h3] at h; cases h
    cases h4 : decide (apE (mA w) (apV (mB w) (vX w)) = 0)
    · rw [h1, h2, h3, h4] at h; cases h
    rw [decide_eq_true_eq] at h1 h2 h3 h4
    have a1 := mu_wh wA wB h1
    have a2 := ap_wh a1 wX h2
    have a3 := ap_wh wB wX h3
    have a4 := ap_wh wA a3 h4
    have e : ∀ j, j < 3 → apV (muV (mA w) (mB w)) (vX w) j = apV (mA w) (apV (mB w) (vX w)) j := fun j hj => by rw [a2 j hj, a4 j hj, wapp_assoc _ _ _ j hj]
    rw [e 0 (by decide), e 1 (by decide), e 2 (by decide)] at h
    simp [allB] at h
  cases hm : rightL (l12 m)
  · rfl
  cases hv : rightL (l3_ v)
  · rfl
  obtain ⟨s1, s2⟩ := same_left hm
  obtain ⟨t1, t2⟩ := same_behind hm
  obtain ⟨u1, u2⟩ := same_app hv
  rw [s1, t1, u1, s2 0 (by decide), s2 1 (by decide), s2 2 (by decide), s2 3 (by decide), s2 4 (by decide), s2 5 (by decide), s2 6 (by decide), s2 7 (by decide), s2 8 (by decide), s2 9 (by decide), s2 10 (by decide), s2 11 (by decide), t2 0 (by decide), t2 1 (by decide), t2 2 (by decide), t2 3 (by decide), t2 4 (by decide), t2 5 (by decide), t2 6 (by decide), t2 7 (by decide), t2 8 (by decide), t2 9 (by decide), t2 10 (by decide), t2 11 (by decide), u2 0 (by decide), u2 1 (by decide), u2 2 (by decide)]
  simp [allB]
theorem num_fn (w m v : Nat → Int) : Fn E 8 [w36 w, mt m, l3 (v 0) (v 1) (v 2)] (vb true) := by
  refine Fn.of_vc ok8 eqs_ok csF_ok rfl rfl rfl (.inr (by as_aux_lemma => kernel_rfl)) fun hr => ?_
  exact @vc_of _ (numG w m v) (by as_aux_lemma => kernel_rfl) (num_g w m v)
theorem num_law : ∀ xs, OfVs E.tab 8 [64, 49, 24] xs → Call E 8 xs ⟨0, []⟩ (fun r _ => r = vb true) :=
  law_all (P' := ∀ (w0 w1 w2 w3 w4 w5 w6 w7 w8 w9 w10 w11 w12 w13 w14 w15 w16 w17 w18 w19 w20 w21 w22 w23 w24 w25 w26 w27 w28 w29 w30 w31 w32 w33 w34 w35 m0 m1 m2 m3 m4 m5 m6 m7 m8 m9 m10 m11 v0 v1 v2 : Int), Fn E 8 [.agg [.d (.int .i8 w0), .d (.int .i8 w1), .d (.int .i8 w2), .d (.int .i8 w3), .d (.int .i8 w4), .d (.int .i8 w5), .d (.int .i8 w6), .d (.int .i8 w7), .d (.int .i8 w8), .d (.int .i8 w9), .d (.int .i8 w10), .d (.int .i8 w11), .d (.int .i8 w12), .d (.int .i8 w13), .d (.int .i8 w14), .d (.int .i8 w15), .d (.int .i8 w16), .d (.int .i8 w17), .d (.int .i8 w18), .d (.int .i8 w19), .d (.int .i8 w20), .d (.int .i8 w21), .d (.int .i8 w22), .d (.int .i8 w23), .d (.int .i8 w24), .d (.int .i8 w25), .d (.int .i8 w26), .d (.int .i8 w27), .d (.int .i8 w28), .d (.int .i8 w29), .d (.int .i8 w30), .d (.int .i8 w31), .d (.int .i8 w32), .d (.int .i8 w33), .d (.int .i8 w34), .d (.int .i8 w35)], .agg [vi m0, vi m1, vi m2, vi m3, vi m4, vi m5, vi m6, vi m7, vi m8, vi m9, vi m10, vi m11], .agg [vi v0, vi v1, vi v2]] (vb true)) (by kernel_rfl) (by kernel_rfl)
    fun w0 w1 w2 w3 w4 w5 w6 w7 w8 w9 w10 w11 w12 w13 w14 w15 w16 w17 w18 w19 w20 w21 w22 w23 w24 w25 w26 w27 w28 w29 w30 w31 w32 w33 w34 w35 m0 m1 m2 m3 m4 m5 m6 m7 m8 m9 m10 m11 v0 v1 v2 => cast (by kernel_rfl) (num_fn (nthI [w0, w1, w2, w3, w4, w5, w6, w7, w8, w9, w10, w11, w12, w13, w14, w15, w16, w17, w18, w19, w20, w21, w22, w23, w24, w25, w26, w27, w28, w29, w30, w31, w32, w33, w34, w35]) (nthI [m0, m1, m2, m3, m4, m5, m6, m7, m8, m9, m10, m11]) (nthI [v0, v1, v2]))
end Go.Proofs.Ytmgckodihnmjoaa
