/-
  The law ShapeInside: what the code comes to. Conditions: none.
-/
import Derived.Test.YtmgckodihnmjoaaShD
set_option linter.unusedVariables false
set_option linter.unusedSimpArgs false
set_option maxRecDepth 20000
namespace Go.Proofs.Ytmgckodihnmjoaa
open Oc
set_option maxRecDepth 100000
noncomputable def caP : List V → Option (List Ob × V) := fun xs => match xs with
  | [.agg m, .agg [.d (.int .i64 a), .d (.int .i64 b), .d (.int .i64 c), .d (.int .i64 x), .d (.int .i64 y), .d (.int .i64 z)]] => match allV m && Nat.beq m.length 12 with
    | true => some ([], .tup [bx (caL (nthI (intsV m)) a b c x y z 0) (caL (nthI (intsV m)) a b c x y z 1) (caL (nthI (intsV m)) a b c x y z 2) (caH (nthI (intsV m)) a b c x y z 0) (caH (nthI (intsV m)) a b c x y z 1) (caH (nthI (intsV m)) a b c x y z 2), vi (caE (nthI (intsV m)) a b c x y z)])
    | false => none
  | _ => none
noncomputable def spP : List V → Option (List Ob × V) := fun xs => match xs with
  | [.agg [.d (.int .i64 n0), .d (.int .i64 n1), .d (.int .i64 n2), .d (.int .i64 d)], .agg [.d (.int .i64 a), .d (.int .i64 b), .d (.int .i64 c), .d (.int .i64 x), .d (.int .i64 y), .d (.int .i64 z)]] => some ([], .tup [vi (spL n0 n1 n2 d a b c x y z), vi (spH n0 n1 n2 d a b c x y z), vi (spE n0 n1 n2 d a b c x y z)])
  | _ => none
noncomputable def diP : List V → Option (List Ob × V) := fun xs => match xs with
  | [.agg [.d (.int .i64 n0), .d (.int .i64 n1), .d (.int .i64 n2), .d (.int .i64 d)], .agg [.d (.int .i64 u), .d (.int .i64 v), .d (.int .i64 w)]] => some ([], .tup [vi (diV n0 n1 n2 d u v w), vi (diE n0 n1 n2 d u v w)])
  | _ => none
noncomputable def joP : List V → Option (List Ob × V) := fun xs => match xs with
  | [.d (.lst 2 [.int .i64 a, .int .i64 b, .int .i64 c, .int .i64 x, .int .i64 y, .int .i64 z, .int .i64 a', .int .i64 b', .int .i64 c', .int .i64 x', .int .i64 y', .int .i64 z'])] =>
    some ([], .tup [bx (joV a b c x y z a' b' c' x' y' z' (min (min a a) a')) (joV a b c x y z a' b' c' x' y' z' (min (min b b) b')) (joV a b c x y z a' b' c' x' y' z' (min (min c c) c')) (joV a b c x y z a' b' c' x' y' z' (max (max x x) x')) (joV a b c x y z a' b' c' x' y' z' (max (max y y) y')) (joV a b c x y z a' b' c' x' y' z' (max (max z z) z')), vi (joE a b c x y z a' b' c' x' y' z')])
  | _ => none
noncomputable def ptG0 : List (Nat × (List V → Option (List Ob × V))) := (55, caP) :: (57, spP) :: (61, diP) :: (50, joP) :: ptF
theorem ptG0_ok : PtOk E ptG0 := by
  refine PtOk.cons ok55.en (fun args l r e hl => ?_) (PtOk.cons ok57.en (fun args l r e hl => ?_) (PtOk.cons ok61.en (fun args l r e hl => ?_) (PtOk.cons ok50.en (fun args l r e hl => ?_) ptF_ok)))
  · unfold caP at e; split at e
    · split at e
      · rename_i hb
        cases e
        obtain ⟨h1, h2⟩ := and_split hb
        rw [mt_of h1 (Nat.eq_of_beq_eq_true h2)]
        exact carry_fn ..
      · cases e
    · cases e
  · unfold spP at e; split at e
    · cases e; exact span_fn ..
    · cases e
  · unfold diP at e; split at e
    · cases e; exact dist_fn ..
    · cases e
  · unfold joP at e; split at e
    · cases e; exact join_fn ..
    · cases e
noncomputable def csQ : Cs := csN E.tab eqs fnS none (csP ptG0) 10
theorem csQ_ok : CsOk E csQ := csN_ok fnS_ok eqs_ok (csP_ok ptG0_ok) 10
theorem al04 : Fn E 48 [] (vb true) := by
  refine Fn.of_vc ok48 eqs_ok csQ_ok rfl rfl rfl (.inr (by as_aux_lemma => kernel_rfl)) fun hr => ?_
  refine @vc_of _ (True ∧ True ∧ V.d (D.bool true) = vb true) (by as_aux_lemma => kernel_rfl) ?_
  exact ⟨trivial, trivial, rfl⟩
noncomputable def ptG : List (Nat × (List V → Option (List Ob × V))) := (48, fun xs => match xs with | [] => some ([], vb true) | _ => none) :: ptG0
theorem ptG_ok : PtOk E ptG := PtOk.cons ok48.en (fun args l r e hl => by
  split at e
  · cases e; exact al04
  · cases e) ptG0_ok
noncomputable def csM : Cs := csN E.tab eqs fnS none (csP ptG) 10
theorem csM_ok : CsOk E csM := csN_ok fnS_ok eqs_ok (csP_ok ptG_ok) 10
/-- What the law comes to. -/
def insG (a b c x y z a' b' c' x' y' z' : Int) (f g : Nat → Int) (u v w n0 n1 n2 d : Int) : Prop :=
  bif !inB a b c x y z u v w then V.d (.bool true) = vb true
  else bif bif decide (caE f a b c x y z = 0) then bif !decide (apE f g = 0) then true else
      !inB (caL f a b c x y z 0) (caL f a b c x y z 1) (caL f a b c x y z 2) (caH f a b c x y z 0) (caH f a b c x y z 1) (caH f a b c x y z 2) (apV f g 0) (apV f g 1) (apV f g 2) else false then V.d (.bool false) = vb true
  else bif bif decide (spE n0 n1 n2 d a b c x y z = 0) then bif decide (diE n0 n1 n2 d u v w = 0) then bif ltZ (diV n0 n1 n2 d u v w) (spL n0 n1 n2 d a b c x y z) then true else ltZ (spH n0 n1 n2 d a b c x y z) (diV n0 n1 n2 d u v w) else false else false then V.d (.bool false) = vb true
  else V.d (.bool (bif !decide (joE a b c x y z a' b' c' x' y' z' = 0) then true else
      inB (joV a b c x y z a' b' c' x' y' z' (min (min a a) a')) (joV a b c x y z a' b' c' x' y' z' (min (min b b) b')) (joV a b c x y z a' b' c' x' y' z' (min (min c c) c')) (joV a b c x y z a' b' c' x' y' z' (max (max x x) x')) (joV a b c x y z a' b' c' x' y' z' (max (max y y) y')) (joV a b c x y z a' b' c' x' y' z' (max (max z z) z')) u v w)) = vb true
theorem ins_g (a b c x y z a' b' c' x' y' z' : Int) (f g : Nat → Int) (u v w n0 n1 n2 d : Int) (h0 : g 0 = u) (h1 : g 1 = v) (h2 : g 2 = w) : insG a b c x y z a' b' c' x' y' z' f g u v w n0 n1 n2 d := by
  unfold insG
  cases hi : inB a b c x y z u v w
  · rfl
  obtain ⟨i0, i1, i2, i3, i4, i5⟩ := inB_iff.1 hi
  refine way_iff.2 ⟨fun h => absurd h (by decide), fun _ => ?_⟩
  refine way_iff.2 ⟨fun h => ?_, fun _ => ?_⟩
  · exfalso
    by_cases hc : caE f a b c x y z = 0
    · obtain ⟨k1, k2⟩ := carry_mid (g := g) hc (by omega) (by omega) (by omega) (by omega) (by omega) (by omega)
      have k3 : inB (caL f a b c x y z 0) (caL f a b c x y z 1) (caL f a b c x y z 2) (caH f a b c x y z 0) (caH f a b c x y z 1) (caH f a b c x y z 2) (apV f g 0) (apV f g 1) (apV f g 2) = true := by
        rw [inB_iff]
        have := k2 0 (by decide); have := k2 1 (by decide); have := k2 2 (by decide)
        omega
      rw [k1, k3] at h
      simp [hc] at h
    · simp [hc] at h
  refine way_iff.2 ⟨fun h => ?_, fun _ => ?_⟩
  · exfalso
    by_cases hs : spE n0 n1 n2 d a b c x y z = 0
    · by_cases hd : diE n0 n1 n2 d u v w = 0
      · have := span_mid hs hd i0 i3 i1 i4 i2 i5
        simp only [hs, hd, decide_true, cond_true, ltZ_eq] at h
        cases k : decide (diV n0 n1 n2 d u v w < spL n0 n1 n2 d a b c x y z)
        · rw [k] at h
          have h : decide (spH n0 n1 n2 d a b c x y z < diV n0 n1 n2 d u v w) = true := h
          rw [decide_eq_true_eq] at h; omega
        · rw [decide_eq_true_eq] at k; omega
      · simp [hs, hd] at h
    · simp [hs] at h
  by_cases hj : joE a b c x y z a' b' c' x' y' z' = 0
  · rw [join_mid hj hi]; simp
  · simp [hj]
theorem ins_fn (a b c x y z a' b' c' x' y' z' : Int) (f : Nat → Int) (u v w o n0 n1 n2 d : Int) : Fn E 10 [.agg [vi a, vi b, vi c, vi x, vi y, vi z, vi a', vi b', vi c', vi x', vi y', vi z'], mt f, .agg [vi u, vi v, vi w, vi o, vi n0, vi n1, vi n2, vi d]] (vb true) := by
  refine Fn.of_vc ok10 eqs_ok csM_ok rfl rfl rfl (by first | exact .inl (by as_aux_lemma => kernel_rfl) | exact .inr (by as_aux_lemma => kernel_rfl)) fun hr => ?_
  exact @vc_of _ (insG a b c x y z a' b' c' x' y' z' (nthI (l12 f)) (nthI [u, v, w]) u v w n0 n1 n2 d) (by as_aux_lemma => kernel_rfl) (ins_g a b c x y z a' b' c' x' y' z' _ _ u v w n0 n1 n2 d rfl rfl rfl)
theorem ins_law : ∀ xs, OfVs E.tab 8 [87, 49, 88] xs → Call E 10 xs ⟨0, []⟩ (fun r _ => r = vb true) :=
  law_all (P' := ∀ (a b c x y z a' b' c' x' y' z' m0 m1 m2 m3 m4 m5 m6 m7 m8 m9 m10 m11 u v w o n0 n1 n2 d : Int), Fn E 10 [.agg [vi a, vi b, vi c, vi x, vi y, vi z, vi a', vi b', vi c', vi x', vi y', vi z'], .agg [vi m0, vi m1, vi m2, vi m3, vi m4, vi m5, vi m6, vi m7, vi m8, vi m9, vi m10, vi m11], .agg [vi u, vi v, vi w, vi o, vi n0, vi n1, vi n2, vi d]] (vb true)) (by kernel_rfl) (by kernel_rfl)
    fun a b c x y z a' b' c' x' y' z' m0 m1 m2 m3 m4 m5 m6 m7 m8 m9 m10 m11 u v w o n0 n1 n2 d => cast (by kernel_rfl) (ins_fn a b c x y z a' b' c' x' y' z' (nthI [m0, m1, m2, m3, m4, m5, m6, m7, m8, m9, m10, m11]) u v w o n0 n1 n2 d)
end Go.Proofs.Ytmgckodihnmjoaa
