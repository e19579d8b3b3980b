/-
  Boxes and planes, in the document's words: what the code comes to: the same. Conditions: none.
-/
import Derived.Test.YtmgckodihnmjoaaShD
set_option linter.unusedVariables false
set_option linter.unusedSimpArgs false
set_option maxRecDepth 20000
namespace Go.Proofs.Ytmgckodihnmjoaa
open Oc
set_option maxRecDepth 100000
theorem le_min (a x : Int) : decide (min a x = a) = leZ a x := by rw [leZ_eq, decide_eq_decide]; omega
theorem le_max (a x : Int) : decide (max a x = a) = leZ x a := by rw [leZ_eq, decide_eq_decide]; omega
theorem lt_le (a x : Int) : ltZ a x = !leZ x a := by rw [leZ_eq, ltZ_eq, ← decide_not, decide_eq_decide]; omega
theorem right_4 (a b c d : Int) : rightL [a, b, c, d] = (rightL [a, b, c] && rightL [d]) := by
  show (true && okN a && okN b && okN c && okN d) = ((true && okN a && okN b && okN c) && (true && okN d))
  cases okN a <;> cases okN b <;> cases okN c <;> rfl
noncomputable def csU : Cs := csN E.tab eqs fnS none (csP ptF) 10
theorem csU_ok : CsOk E csU := csN_ok fnS_ok eqs_ok (csP_ok ptF_ok) 10
theorem rright_fn (a b c x y z : Int) : Fn E 49 [bx a b c x y z] (vb (bxR a b c x y z)) := by
  refine Fn.of_vc ok49 eqs_ok csU_ok rfl rfl rfl (by first | exact .inl (by as_aux_lemma => kernel_rfl) | exact .inr (by as_aux_lemma => kernel_rfl)) fun hr => ?_
  refine @vc_of _ ((bif !rightL [a, b, c] then True else (bif !rightL [x, y, z] then True else True) ∧ True) ∧ (bif bif !rightL [a, b, c] then false else bif !rightL [x, y, z] then false else true then True else True) ∧ (bif bif bif !rightL [a, b, c] then false else bif !rightL [x, y, z] then false else true then leZ a x else false then True else True) ∧ (bif bif bif bif !rightL [a, b, c] then false else bif !rightL [x, y, z] then false else true then leZ a x else false then leZ b y else false then True else True) ∧ V.d (D.bool (bif bif bif bif !rightL [a, b, c] then false else bif !rightL [x, y, z] then false else true then leZ a x else false then leZ b y else false then leZ c z else false)) = vb (bxR a b c x y z)) (by as_aux_lemma => kernel_rfl) ?_
  simp only [tt_, true_and]
  unfold bxR
  rw [le_min, le_min, le_min]
  cases rightL [a, b, c] <;> cases rightL [x, y, z] <;> cases leZ a x <;> cases leZ b y <;> cases leZ c z <;> rfl
theorem rplane_fn (a b c d : Int) : Fn E 54 [pl a b c d] (vb (plR a b c d)) := by
  refine Fn.of_vc ok54 eqs_ok csU_ok rfl rfl rfl (by first | exact .inl (by as_aux_lemma => kernel_rfl) | exact .inr (by as_aux_lemma => kernel_rfl)) fun hr => ?_
  refine @vc_of _ (V.d (D.bool (rightL [a, b, c, d])) = vb (plR a b c d)) (by as_aux_lemma => kernel_rfl) ?_
  rw [right_4]
  unfold plR
  cases rightL [a, b, c] <;> cases rightL [d] <;> rfl
theorem rin_fn (a b c x y z u v w : Int) : Fn E 60 [bx a b c x y z, l3 u v w] (vb (inB a b c x y z u v w)) := by
  refine Fn.of_vc ok60 eqs_ok csU_ok rfl rfl rfl (by first | exact .inl (by as_aux_lemma => kernel_rfl) | exact .inr (by as_aux_lemma => kernel_rfl)) fun hr => ?_
  refine @vc_of _ ((bif ltZ u a then True else True) ∧ bif bif ltZ u a then true else ltZ x u then V.d (D.bool false) = vb (inB a b c x y z u v w) else (bif ltZ v b then True else True) ∧ bif bif ltZ v b then true else ltZ y v then V.d (D.bool false) = vb (inB a b c x y z u v w) else (bif ltZ w c then True else True) ∧ bif bif ltZ w c then true else ltZ z w then V.d (D.bool false) = vb (inB a b c x y z u v w) else V.d (D.bool true) = vb (inB a b c x y z u v w)) (by as_aux_lemma => kernel_rfl) ?_
  simp only [tt_, true_and, lt_le]
  unfold inB
  rw [le_min, le_min, le_min, le_max, le_max, le_max]
  cases leZ a u <;> cases leZ b v <;> cases leZ c w <;> cases leZ u x <;> cases leZ v y <;> cases leZ w z <;> rfl
theorem max_0 {p q : Int} (hp : 0 ≤ p) (hq : 0 ≤ q) : (bif !decide (p = 0) then true else !decide (q = 0)) = !decide (max p q = 0) := by
  by_cases h1 : p = 0 <;> by_cases h2 : q = 0 <;> simp [h1, h2] <;> omega
theorem ends_pl (n0 n1 n2 m a b c x y z : Int) : bif !decide (max (mulE n0 a) (mulE n0 x) = 0) then V.tup [V.d (D.int .i64 0), V.d (D.int .i64 0), V.d (D.int .i64 6)] = V.tup [vi (enL n0 n1 n2 m a b c x y z), vi (enH n0 n1 n2 m a b c x y z), vi (enE n0 n1 n2 m a b c x y z)] else bif !decide (max (mulE n1 b) (mulE n1 y) = 0) then V.tup [V.d (D.int .i64 0), V.d (D.int .i64 0), V.d (D.int .i64 6)] = V.tup [vi (enL n0 n1 n2 m a b c x y z), vi (enH n0 n1 n2 m a b c x y z), vi (enE n0 n1 n2 m a b c x y z)] else bif !decide (max (mulE n2 c) (mulE n2 z) = 0) then V.tup [V.d (D.int .i64 0), V.d (D.int .i64 0), V.d (D.int .i64 6)] = V.tup [vi (enL n0 n1 n2 m a b c x y z), vi (enH n0 n1 n2 m a b c x y z), vi (enE n0 n1 n2 m a b c x y z)] else bif !decide (max (addEL [m, min (mulV n0 a) (mulV n0 x), min (mulV n1 b) (mulV n1 y), min (mulV n2 c) (mulV n2 z)]) (addEL [m, max (mulV n0 a) (mulV n0 x), max (mulV n1 b) (mulV n1 y), max (mulV n2 c) (mulV n2 z)]) = 0) then V.tup [V.d (D.int .i64 0), V.d (D.int .i64 0), V.d (D.int .i64 6)] = V.tup [vi (enL n0 n1 n2 m a b c x y z), vi (enH n0 n1 n2 m a b c x y z), vi (enE n0 n1 n2 m a b c x y z)] else V.tup [V.d (D.int .i64 (addVL [m, min (mulV n0 a) (mulV n0 x), min (mulV n1 b) (mulV n1 y), min (mulV n2 c) (mulV n2 z)])), V.d (D.int .i64 (addVL [m, max (mulV n0 a) (mulV n0 x), max (mulV n1 b) (mulV n1 y), max (mulV n2 c) (mulV n2 z)])), V.d (D.int .i64 0)] = V.tup [vi (enL n0 n1 n2 m a b c x y z), vi (enH n0 n1 n2 m a b c x y z), vi (enE n0 n1 n2 m a b c x y z)] := by
  unfold enL enH
  have k : ∀ e : Int, enE n0 n1 n2 m a b c x y z = e → e ≠ 0 → (bif decide (enE n0 n1 n2 m a b c x y z = 0) then addVL (loL n0 n1 n2 m a b c x y z) else 0) = 0 ∧ (bif decide (enE n0 n1 n2 m a b c x y z = 0) then addVL (hiL n0 n1 n2 m a b c x y z) else 0) = 0 := fun e h h0 => by
    rw [h]; simp [h0]
  by_cases q0 : max (mulE n0 a) (mulE n0 x) = 0
  · by_cases q1 : max (mulE n1 b) (mulE n1 y) = 0
    · by_cases q2 : max (mulE n2 c) (mulE n2 z) = 0
      · by_cases q3 : max (addEL (loL n0 n1 n2 m a b c x y z)) (addEL (hiL n0 n1 n2 m a b c x y z)) = 0
        · have hE : enE n0 n1 n2 m a b c x y z = 0 := by simp [enE, q0, q1, q2, q3]
          rw [hE]
          simp only [loL, hiL] at q3 ⊢
          simp only [q0, q1, q2, decide_true, Bool.not_true, cond_false, cond_true]
          refine way_iff.2 ⟨fun h => ?_, fun h => by first | trivial | rfl⟩
          exfalso; rw [Bool.not_eq_true', decide_eq_false_iff_not] at h; exact h q3
        · have hE : enE n0 n1 n2 m a b c x y z = 6 := by simp [enE, q0, q1, q2, q3]
          obtain ⟨k1, k2⟩ := k 6 hE (by decide)
          rw [k1, k2, hE]
          simp only [loL, hiL] at q3
          simp only [q0, q1, q2, decide_true, Bool.not_true, cond_false, cond_true]
          refine way_iff.2 ⟨fun h => by first | trivial | rfl, fun h => ?_⟩
          exfalso; rw [Bool.not_eq_false', decide_eq_true_eq] at h; exact q3 h
      · have hE : enE n0 n1 n2 m a b c x y z = 6 := by simp [enE, q0, q1, q2]
        obtain ⟨k1, k2⟩ := k 6 hE (by decide)
        rw [k1, k2, hE]
        simp only [q0, q1, q2, decide_true, decide_false, Bool.not_true, Bool.not_false, cond_false, cond_true]
    · have hE : enE n0 n1 n2 m a b c x y z = 6 := by simp [enE, q0, q1]
      obtain ⟨k1, k2⟩ := k 6 hE (by decide)
      rw [k1, k2, hE]
      simp only [q0, q1, decide_true, decide_false, Bool.not_true, Bool.not_false, cond_false, cond_true]
  · have hE : enE n0 n1 n2 m a b c x y z = 6 := by simp [enE, q0]
    obtain ⟨k1, k2⟩ := k 6 hE (by decide)
    rw [k1, k2, hE]
    simp only [q0, decide_false, Bool.not_false, cond_true]
theorem rends_fn (n0 n1 n2 m a b c x y z : Int) : Fn E 107 [l3 n0 n1 n2, vi m, bx a b c x y z] (.tup [vi (enL n0 n1 n2 m a b c x y z), vi (enH n0 n1 n2 m a b c x y z), vi (enE n0 n1 n2 m a b c x y z)]) := by
  refine Fn.of_vc ok107 eqs_ok csU_ok rfl rfl rfl (by first | exact .inl (by as_aux_lemma => kernel_rfl) | exact .inr (by as_aux_lemma => kernel_rfl)) fun hr => ?_
  refine @vc_of _ (bif (bif !decide (mulE n0 a = 0) then true else !decide (mulE n0 x = 0)) then V.tup [V.d (D.int .i64 0), V.d (D.int .i64 0), V.d (D.int .i64 6)] = V.tup [vi (enL n0 n1 n2 m a b c x y z), vi (enH n0 n1 n2 m a b c x y z), vi (enE n0 n1 n2 m a b c x y z)] else bif (bif !decide (mulE n1 b = 0) then true else !decide (mulE n1 y = 0)) then V.tup [V.d (D.int .i64 0), V.d (D.int .i64 0), V.d (D.int .i64 6)] = V.tup [vi (enL n0 n1 n2 m a b c x y z), vi (enH n0 n1 n2 m a b c x y z), vi (enE n0 n1 n2 m a b c x y z)] else bif (bif !decide (mulE n2 c = 0) then true else !decide (mulE n2 z = 0)) then V.tup [V.d (D.int .i64 0), V.d (D.int .i64 0), V.d (D.int .i64 6)] = V.tup [vi (enL n0 n1 n2 m a b c x y z), vi (enH n0 n1 n2 m a b c x y z), vi (enE n0 n1 n2 m a b c x y z)] else bif (bif !decide (addEL [m, min (mulV n0 a) (mulV n0 x), min (mulV n1 b) (mulV n1 y), min (mulV n2 c) (mulV n2 z)] = 0) then true else !decide (addEL [m, max (mulV n0 a) (mulV n0 x), max (mulV n1 b) (mulV n1 y), max (mulV n2 c) (mulV n2 z)] = 0)) then V.tup [V.d (D.int .i64 0), V.d (D.int .i64 0), V.d (D.int .i64 6)] = V.tup [vi (enL n0 n1 n2 m a b c x y z), vi (enH n0 n1 n2 m a b c x y z), vi (enE n0 n1 n2 m a b c x y z)] else V.tup [V.d (D.int .i64 (addVL [m, min (mulV n0 a) (mulV n0 x), min (mulV n1 b) (mulV n1 y), min (mulV n2 c) (mulV n2 z)])), V.d (D.int .i64 (addVL [m, max (mulV n0 a) (mulV n0 x), max (mulV n1 b) (mulV n1 y), max (mulV n2 c) (mulV n2 z)])), V.d (D.int .i64 0)] = V.tup [vi (enL n0 n1 n2 m a b c x y z), vi (enH n0 n1 n2 m a b c x y z), vi (enE n0 n1 n2 m a b c x y z)]) (by as_aux_lemma => kernel_rfl) ?_
  rw [max_0 (mulE_p _ _) (mulE_p _ _), max_0 (mulE_p _ _) (mulE_p _ _), max_0 (mulE_p _ _) (mulE_p _ _), max_0 (addEL_p _) (addEL_p _)]
  exact ends_pl n0 n1 n2 m a b c x y z
theorem rdot_fn (a b c x y z : Int) : Fn E 24 [l3 a b c, l3 x y z] (.tup [vi (dotV a b c x y z), vi (dotE a b c x y z)]) := by
  refine Fn.of_vc (ok24.hold [37]) eqs_ok csU_ok rfl rfl rfl (by first | exact .inl (by as_aux_lemma => kernel_rfl) | exact .inr (by as_aux_lemma => kernel_rfl)) fun hr => ?_
  refine @vc_of _ ((bif !rightL [a, b, c] then True else (bif !rightL [x, y, z] then True else True) ∧ True) ∧ bif !bif !rightL [a, b, c] then false else bif !rightL [x, y, z] then false else true then V.tup [V.d (D.int IntKind.i64 (0 : Int)), V.d (D.int IntKind.i64 (1 : Int))] = V.tup [vi (dotV a b c x y z), vi (dotE a b c x y z)] else bif !decide (mulE a x = (0 : Int)) then V.tup [V.d (D.int IntKind.i64 (0 : Int)), V.d (D.int IntKind.i64 (mulE a x))] = V.tup [vi (dotV a b c x y z), vi (dotE a b c x y z)] else bif !decide (mulE b y = (0 : Int)) then V.tup [V.d (D.int IntKind.i64 (0 : Int)), V.d (D.int IntKind.i64 (mulE b y))] = V.tup [vi (dotV a b c x y z), vi (dotE a b c x y z)] else bif !decide (mulE c z = (0 : Int)) then V.tup [V.d (D.int IntKind.i64 (0 : Int)), V.d (D.int IntKind.i64 (mulE c z))] = V.tup [vi (dotV a b c x y z), vi (dotE a b c x y z)] else V.tup [V.d (D.int IntKind.i64 (addVL [mulV a x, mulV b y, mulV c z])), V.d (D.int IntKind.i64 (addEL [mulV a x, mulV b y, mulV c z]))] = V.tup [vi (dotV a b c x y z), vi (dotE a b c x y z)]) (by as_aux_lemma => kernel_rfl) ?_
  simp only [tt_, true_and]
  unfold dotV dotE dotG
  cases rightL [a, b, c] <;> cases rightL [x, y, z] <;> first | rfl | skip
  by_cases q0 : mulE a x = 0
  · by_cases q1 : mulE b y = 0
    · by_cases q2 : mulE c z = 0
      · simp only [q0, q1, q2, decide_true, Bool.not_true, cond_false, cond_true]
      · simp only [q0, q1, q2, decide_true, decide_false, Bool.not_true, Bool.not_false, cond_false, cond_true]
    · simp only [q0, q1, decide_true, decide_false, Bool.not_true, Bool.not_false, cond_false, cond_true]
  · simp only [q0, decide_true, decide_false, Bool.not_true, Bool.not_false, cond_false, cond_true]
def meetB (a b c x y z a' b' c' x' y' z' : Int) : Bool := leZ (max a a') (min x x') && (leZ (max b b') (min y y') && leZ (max c c') (min z z'))
theorem meet_fn (a b c x y z a' b' c' x' y' z' : Int) : Fn E 66 [bx a b c x y z, bx a' b' c' x' y' z'] (vb (meetB a b c x y z a' b' c' x' y' z')) := by
  refine Fn.of_vc ok66 eqs_ok csU_ok rfl rfl rfl (by first | exact .inl (by as_aux_lemma => kernel_rfl) | exact .inr (by as_aux_lemma => kernel_rfl)) fun hr => ?_
  refine @vc_of _ (bif ltZ (match false with | true => max x x' | false => min x x') (match true with | true => max a a' | false => min a a') then V.d (D.bool false) = vb (meetB a b c x y z a' b' c' x' y' z') else bif ltZ (match false with | true => max y y' | false => min y y') (match true with | true => max b b' | false => min b b') then V.d (D.bool false) = vb (meetB a b c x y z a' b' c' x' y' z') else bif ltZ (match false with | true => max z z' | false => min z z') (match true with | true => max c c' | false => min c c') then V.d (D.bool false) = vb (meetB a b c x y z a' b' c' x' y' z') else V.d (D.bool true) = vb (meetB a b c x y z a' b' c' x' y' z')) (by as_aux_lemma => kernel_rfl) ?_
  simp only [lt_le]
  unfold meetB
  cases leZ (max a a') (min x x') <;> cases leZ (max b b') (min y y') <;> cases leZ (max c c') (min z z') <;> rfl
end Go.Proofs.Ytmgckodihnmjoaa
