/-
  A box's sides: what the code comes to. Conditions: none.
-/
import Derived.Test.YtmgckodihnmjoaaVwF
set_option linter.unusedVariables false
set_option linter.unusedSimpArgs false
set_option maxRecDepth 20000
namespace Go.Proofs.Ytmgckodihnmjoaa
open Oc
set_option maxRecDepth 100000
theorem Fn.weak {E : Env} {f : FuncId} {args : List V} {r r' : V} (c : Fn E f args r) (l : VLe r r') (hp : r'.pure = true) : Fn E f args r' := ⟨hp, c.2.1, fun U m w vs hH hV => (c.2.2 U m w vs hH hV).mono fun e w' ⟨r2, R0, U', m', h2, e1, q1, hvr, hH', st⟩ => ⟨r', R0, U', m', h2, e1, rfl, (q1 ▸ hvr).le l, hH', st⟩⟩
/-- The error of a box's sides. -/
def bsE (a b c x y z : Int) : Int := bif !bxR a b c x y z then 1 else bif !decide (negE a = 0) then negE a else bif !decide (negE b = 0) then negE b else bif !decide (negE c = 0) then negE c else 0
def sides (a b c x y z : Int) : List D := [.int .i64 65536, .int .i64 0, .int .i64 0, .int .i64 (negV a), .int .i64 (-65536), .int .i64 0, .int .i64 0, .int .i64 x, .int .i64 0, .int .i64 65536, .int .i64 0, .int .i64 (negV b), .int .i64 0, .int .i64 (-65536), .int .i64 0, .int .i64 y, .int .i64 0, .int .i64 0, .int .i64 65536, .int .i64 (negV c), .int .i64 0, .int .i64 0, .int .i64 (-65536), .int .i64 z]
theorem box_ok (a b c x y z : Int) (h : bsE a b c x y z = 0) : Fn E 65 [bx a b c x y z] (.tup [.d (.lst 6 (sides a b c x y z)), vi 0]) := by
  refine Fn.of_vc (ok65.hold [45]) eqs_ok csL_ok rfl rfl rfl (.inr (by as_aux_lemma => kernel_rfl)) fun hr => ?_
  refine @vc_of _ (bif !bxR a b c x y z then V.tup [V.d D.nsl, V.d (D.int IntKind.i64 (1 : Int))] = V.tup [V.d (D.lst (6 : Nat) (sides a b c x y z)), vi (0 : Int)] else bif !decide (negE a = (0 : Int)) then V.tup [V.d D.nsl, V.d (D.int IntKind.i64 (negE a))] = V.tup [V.d (D.lst (6 : Nat) (sides a b c x y z)), vi (0 : Int)] else bif !decide (negE b = (0 : Int)) then V.tup [V.d D.nsl, V.d (D.int IntKind.i64 (negE b))] = V.tup [V.d (D.lst (6 : Nat) (sides a b c x y z)), vi (0 : Int)] else bif !decide (negE c = (0 : Int)) then V.tup [V.d D.nsl, V.d (D.int IntKind.i64 (negE c))] = V.tup [V.d (D.lst (6 : Nat) (sides a b c x y z)), vi (0 : Int)] else V.tup [V.d (D.lst (6 : Nat) [D.int IntKind.i64 (65536 : Int), D.int IntKind.i64 (0 : Int), D.int IntKind.i64 (0 : Int), D.int IntKind.i64 (negV a), D.int IntKind.i64 (-65536 : Int), D.int IntKind.i64 (0 : Int), D.int IntKind.i64 (0 : Int), D.int IntKind.i64 x, D.int IntKind.i64 (0 : Int), D.int IntKind.i64 (65536 : Int), D.int IntKind.i64 (0 : Int), D.int IntKind.i64 (negV b), D.int IntKind.i64 (0 : Int), D.int IntKind.i64 (-65536 : Int), D.int IntKind.i64 (0 : Int), D.int IntKind.i64 y, D.int IntKind.i64 (0 : Int), D.int IntKind.i64 (0 : Int), D.int IntKind.i64 (65536 : Int), D.int IntKind.i64 (negV c), D.int IntKind.i64 (0 : Int), D.int IntKind.i64 (0 : Int), D.int IntKind.i64 (-65536 : Int), D.int IntKind.i64 z]), V.d (D.int IntKind.i64 (0 : Int))] = V.tup [V.d (D.lst (6 : Nat) (sides a b c x y z)), vi (0 : Int)]) (by as_aux_lemma => kernel_rfl) ?_
  unfold bsE at h
  cases hG : bxR a b c x y z
  · rw [hG] at h; simp at h
  rw [hG] at h
  by_cases q0 : negE a = 0
  · by_cases q1 : negE b = 0
    · by_cases q2 : negE c = 0
      · simp only [q0, q1, q2, decide_true, Bool.not_true, cond_false]; rfl
      · simp [q0, q1, q2] at h
    · simp [q0, q1] at h
  · simp [q0] at h
theorem box_bad (a b c x y z : Int) (h : bsE a b c x y z ≠ 0) : Fn E 65 [bx a b c x y z] (.tup [.d .nsl, vi (bsE a b c x y z)]) := by
  refine Fn.of_vc (ok65.hold [45]) eqs_ok csL_ok rfl rfl rfl (.inr (by as_aux_lemma => kernel_rfl)) fun hr => ?_
  refine @vc_of _ (bif !bxR a b c x y z then V.tup [V.d D.nsl, V.d (D.int IntKind.i64 (1 : Int))] = V.tup [V.d D.nsl, vi (bsE a b c x y z)] else bif !decide (negE a = (0 : Int)) then V.tup [V.d D.nsl, V.d (D.int IntKind.i64 (negE a))] = V.tup [V.d D.nsl, vi (bsE a b c x y z)] else bif !decide (negE b = (0 : Int)) then V.tup [V.d D.nsl, V.d (D.int IntKind.i64 (negE b))] = V.tup [V.d D.nsl, vi (bsE a b c x y z)] else bif !decide (negE c = (0 : Int)) then V.tup [V.d D.nsl, V.d (D.int IntKind.i64 (negE c))] = V.tup [V.d D.nsl, vi (bsE a b c x y z)] else V.tup [V.d (D.lst (6 : Nat) [D.int IntKind.i64 (65536 : Int), D.int IntKind.i64 (0 : Int), D.int IntKind.i64 (0 : Int), D.int IntKind.i64 (negV a), D.int IntKind.i64 (-65536 : Int), D.int IntKind.i64 (0 : Int), D.int IntKind.i64 (0 : Int), D.int IntKind.i64 x, D.int IntKind.i64 (0 : Int), D.int IntKind.i64 (65536 : Int), D.int IntKind.i64 (0 : Int), D.int IntKind.i64 (negV b), D.int IntKind.i64 (0 : Int), D.int IntKind.i64 (-65536 : Int), D.int IntKind.i64 (0 : Int), D.int IntKind.i64 y, D.int IntKind.i64 (0 : Int), D.int IntKind.i64 (0 : Int), D.int IntKind.i64 (65536 : Int), D.int IntKind.i64 (negV c), D.int IntKind.i64 (0 : Int), D.int IntKind.i64 (0 : Int), D.int IntKind.i64 (-65536 : Int), D.int IntKind.i64 z]), V.d (D.int IntKind.i64 (0 : Int))] = V.tup [V.d D.nsl, vi (bsE a b c x y z)]) (by as_aux_lemma => kernel_rfl) ?_
  have e : ∀ r : Int, bsE a b c x y z = r → V.tup [V.d D.nsl, V.d (D.int .i64 r)] = V.tup [V.d D.nsl, vi (bsE a b c x y z)] := fun r h => by rw [h]
  cases hG : bxR a b c x y z
  · exact e 1 (by unfold bsE; rw [hG]; rfl)
  by_cases q0 : negE a = 0
  · by_cases q1 : negE b = 0
    · by_cases q2 : negE c = 0
      · exact absurd (by unfold bsE; rw [hG]; simp [q0, q1, q2]) h
      · simp only [q0, q1, q2, decide_true, decide_false, Bool.not_true, Bool.not_false, cond_false, cond_true]
        exact e _ (by unfold bsE; rw [hG]; simp [q0, q1, q2])
    · simp only [q0, q1, decide_true, decide_false, Bool.not_true, Bool.not_false, cond_false, cond_true]
      exact e _ (by unfold bsE; rw [hG]; simp [q0, q1])
  · simp only [q0, decide_false, Bool.not_false, cond_true]
    exact e _ (by unfold bsE; rw [hG]; simp [q0])
theorem neg_ok {a : Int} (h : okN a = true) (hn : decide (a = -2147483648) = false) : negE a = 0 ∧ negV a = 0 - a := by
  have h0 := okN_iff.1 h
  rw [decide_eq_false_iff_not] at hn
  have h1 : okN (0 - a) = true := okN_iff.2 (by omega)
  unfold negE negV outE outV
  rw [h, h1]; exact ⟨rfl, rfl⟩
theorem neg_no {a : Int} (hn : decide (a = -2147483648) = true) : negE a = 6 := by
  rw [decide_eq_true_eq] at hn; subst hn; rfl
theorem neg_in {a : Int} (h : okN a = true) : inRb .i64 (0 - a) = true := by
  have h0 := okN_iff.1 h
  exact (by simp only [inI, inRb, loK, hiK, ltZ_eq, leZ_eq, Bool.and_eq_true, decide_eq_true_eq]; omega)
theorem rbox_ok (a b c x y z : Int) (h : bsE a b c x y z = 0) : Fn E 73 [bx a b c x y z] (.tup [.d (.lst 6 (sides a b c x y z)), vi 0]) := by
  refine Fn.of_vc (ok73.hold [43]) eqs_ok csW_ok rfl rfl rfl (.inr (by as_aux_lemma => kernel_rfl)) fun hr => ?_
  refine @vc_of _ (bif !bxR a b c x y z then V.tup [V.d D.nsl, V.d (D.int IntKind.i64 (1 : Int))] = V.tup [V.d (D.lst (6 : Nat) (sides a b c x y z)), vi (0 : Int)] else bif decide (a = (-2147483648 : Int)) then V.tup [V.d D.nsl, V.d (D.int IntKind.i64 (6 : Int))] = V.tup [V.d (D.lst (6 : Nat) (sides a b c x y z)), vi (0 : Int)] else bif inRb IntKind.i64 ((0 : Int) - a) then bif decide (b = (-2147483648 : Int)) then V.tup [V.d D.nsl, V.d (D.int IntKind.i64 (6 : Int))] = V.tup [V.d (D.lst (6 : Nat) (sides a b c x y z)), vi (0 : Int)] else bif inRb IntKind.i64 ((0 : Int) - b) then bif decide (c = (-2147483648 : Int)) then V.tup [V.d D.nsl, V.d (D.int IntKind.i64 (6 : Int))] = V.tup [V.d (D.lst (6 : Nat) (sides a b c x y z)), vi (0 : Int)] else bif inRb IntKind.i64 ((0 : Int) - c) then V.tup [V.d (D.lst (6 : Nat) [D.int IntKind.i64 (65536 : Int), D.int IntKind.i64 (0 : Int), D.int IntKind.i64 (0 : Int), D.int IntKind.i64 ((0 : Int) - a), D.int IntKind.i64 (-65536 : Int), D.int IntKind.i64 (0 : Int), D.int IntKind.i64 (0 : Int), D.int IntKind.i64 x, D.int IntKind.i64 (0 : Int), D.int IntKind.i64 (65536 : Int), D.int IntKind.i64 (0 : Int), D.int IntKind.i64 ((0 : Int) - b), D.int IntKind.i64 (0 : Int), D.int IntKind.i64 (-65536 : Int), D.int IntKind.i64 (0 : Int), D.int IntKind.i64 y, D.int IntKind.i64 (0 : Int), D.int IntKind.i64 (0 : Int), D.int IntKind.i64 (65536 : Int), D.int IntKind.i64 ((0 : Int) - c), D.int IntKind.i64 (0 : Int), D.int IntKind.i64 (0 : Int), D.int IntKind.i64 (-65536 : Int), D.int IntKind.i64 z]), V.d (D.int IntKind.i64 (0 : Int))] = V.tup [V.d (D.lst (6 : Nat) (sides a b c x y z)), vi (0 : Int)] else False else False else False) (by as_aux_lemma => kernel_rfl) ?_
  unfold bsE at h
  cases hG : bxR a b c x y z
  · rw [hG] at h; cases h
  rw [hG] at h
  obtain ⟨o0, o1, o2, _⟩ := bx_ok hG
  unfold sides
  cases q0 : decide (a = -2147483648)
  · obtain ⟨e0, v0⟩ := neg_ok o0 q0
    cases q1 : decide (b = -2147483648)
    · obtain ⟨e1, v1⟩ := neg_ok o1 q1
      cases q2 : decide (c = -2147483648)
      · obtain ⟨e2, v2⟩ := neg_ok o2 q2
        rw [neg_in o0, neg_in o1, neg_in o2, v0, v1, v2]; rfl
      · rw [e0, e1, neg_no q2] at h; cases h
    · rw [e0, neg_no q1] at h; cases h
  · rw [neg_no q0] at h; cases h
theorem rbox_bad (a b c x y z : Int) (h : bsE a b c x y z ≠ 0) : Fn E 73 [bx a b c x y z] (.tup [.d .nsl, vi (bsE a b c x y z)]) := by
  refine Fn.of_vc (ok73.hold [43]) eqs_ok csW_ok rfl rfl rfl (.inr (by as_aux_lemma => kernel_rfl)) fun hr => ?_
  refine @vc_of _ (bif !bxR a b c x y z then V.tup [V.d D.nsl, V.d (D.int IntKind.i64 (1 : Int))] = V.tup [V.d D.nsl, vi (bsE a b c x y z)] else bif decide (a = (-2147483648 : Int)) then V.tup [V.d D.nsl, V.d (D.int IntKind.i64 (6 : Int))] = V.tup [V.d D.nsl, vi (bsE a b c x y z)] else bif inRb IntKind.i64 ((0 : Int) - a) then bif decide (b = (-2147483648 : Int)) then V.tup [V.d D.nsl, V.d (D.int IntKind.i64 (6 : Int))] = V.tup [V.d D.nsl, vi (bsE a b c x y z)] else bif inRb IntKind.i64 ((0 : Int) - b) then bif decide (c = (-2147483648 : Int)) then V.tup [V.d D.nsl, V.d (D.int IntKind.i64 (6 : Int))] = V.tup [V.d D.nsl, vi (bsE a b c x y z)] else bif inRb IntKind.i64 ((0 : Int) - c) then V.tup [V.d (D.lst (6 : Nat) [D.int IntKind.i64 (65536 : Int), D.int IntKind.i64 (0 : Int), D.int IntKind.i64 (0 : Int), D.int IntKind.i64 ((0 : Int) - a), D.int IntKind.i64 (-65536 : Int), D.int IntKind.i64 (0 : Int), D.int IntKind.i64 (0 : Int), D.int IntKind.i64 x, D.int IntKind.i64 (0 : Int), D.int IntKind.i64 (65536 : Int), D.int IntKind.i64 (0 : Int), D.int IntKind.i64 ((0 : Int) - b), D.int IntKind.i64 (0 : Int), D.int IntKind.i64 (-65536 : Int), D.int IntKind.i64 (0 : Int), D.int IntKind.i64 y, D.int IntKind.i64 (0 : Int), D.int IntKind.i64 (0 : Int), D.int IntKind.i64 (65536 : Int), D.int IntKind.i64 ((0 : Int) - c), D.int IntKind.i64 (0 : Int), D.int IntKind.i64 (0 : Int), D.int IntKind.i64 (-65536 : Int), D.int IntKind.i64 z]), V.d (D.int IntKind.i64 (0 : Int))] = V.tup [V.d D.nsl, vi (bsE a b c x y z)] else False else False else False) (by as_aux_lemma => kernel_rfl) ?_
  unfold bsE at h ⊢
  cases hG : bxR a b c x y z
  · rfl
  rw [hG] at h
  obtain ⟨o0, o1, o2, _⟩ := bx_ok hG
  cases q0 : decide (a = -2147483648)
  · obtain ⟨e0, v0⟩ := neg_ok o0 q0
    cases q1 : decide (b = -2147483648)
    · obtain ⟨e1, v1⟩ := neg_ok o1 q1
      cases q2 : decide (c = -2147483648)
      · obtain ⟨e2, v2⟩ := neg_ok o2 q2
        rw [e0, e1, e2] at h; exact absurd rfl h
      · rw [neg_in o0, neg_in o1, e0, e1, neg_no q2]; rfl
    · rw [neg_in o0, e0, neg_no q1]; rfl
  · rw [neg_no q0]; rfl
def sdB (a b c x y z : Int) (i j : Nat) : Int := nthI [65536, 0, 0, negV a, -65536, 0, 0, x, 0, 65536, 0, negV b, 0, -65536, 0, y, 0, 0, 65536, negV c, 0, 0, -65536, z] (4 * i + j)
def bsN (a b c x y z : Int) : Nat := bif decide (bsE a b c x y z = 0) then 6 else 0
def bsR (a b c x y z : Int) : V := .tup [.d (.rows (bsN a b c x y z) 4 fun i => [.int .i64 (sdB a b c x y z i 0), .int .i64 (sdB a b c x y z i 1), .int .i64 (sdB a b c x y z i 2), .int .i64 (sdB a b c x y z i 3)]), vi (bsE a b c x y z)]
theorem bs_ok {a b c x y z : Int} (h : bsE a b c x y z = 0) : VLe (.tup [.d (.lst 6 (sides a b c x y z)), vi 0]) (bsR a b c x y z) := by
  unfold bsR bsN
  rw [h]
  exact VLe.tup (.cons (VLe.ofL rfl (fun i hi => rfl)) (.cons (.refl _) .nil))
theorem bs_bad {a b c x y z : Int} (h : bsE a b c x y z ≠ 0) : VLe (.tup [.d .nsl, vi (bsE a b c x y z)]) (bsR a b c x y z) := by
  unfold bsR bsN
  rw [decide_eq_false h]
  exact VLe.tup (.cons (VLe.nilR _ _) (.cons (.refl _) .nil))
theorem vbox_r (a b c x y z : Int) : Fn E 65 [bx a b c x y z] (bsR a b c x y z) := by
  by_cases h : bsE a b c x y z = 0
  · exact (box_ok a b c x y z h).weak (bs_ok h) rfl
  · exact (box_bad a b c x y z h).weak (bs_bad h) rfl
theorem rbox_r (a b c x y z : Int) : Fn E 73 [bx a b c x y z] (bsR a b c x y z) := by
  by_cases h : bsE a b c x y z = 0
  · exact (rbox_ok a b c x y z h).weak (bs_ok h) rfl
  · exact (rbox_bad a b c x y z h).weak (bs_bad h) rfl
end Go.Proofs.Ytmgckodihnmjoaa
