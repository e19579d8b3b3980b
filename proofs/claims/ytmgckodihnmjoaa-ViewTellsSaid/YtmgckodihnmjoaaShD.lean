/-
  The law ShapeInside, plain: products, and sums of them, of what lies between lie between. Conditions: said with each.
-/
import Derived.Test.YtmgckodihnmjoaaShB
import Derived.Test.YtmgckodihnmjoaaAfF
set_option linter.unusedVariables false
set_option linter.unusedSimpArgs false
set_option maxRecDepth 20000
namespace Go.Proofs.Ytmgckodihnmjoaa

theorem allB_iff {l : List Bool} : allB l = true ↔ ∀ b ∈ l, b = true := by
  rw [allB_eq, List.all_eq_true]; rfl
theorem inB_iff {a b c x y z u v w : Int} : inB a b c x y z u v w = true ↔ (a ≤ u ∧ b ≤ v ∧ c ≤ w ∧ u ≤ x ∧ v ≤ y ∧ w ≤ z) := by
  have e : inB a b c x y z u v w = (allB [decide (min a u = a), decide (min b v = b), decide (min c w = c)] && allB [decide (max x u = x), decide (max y v = y), decide (max z w = z)]) := by
    unfold inB; cases allB [decide (min a u = a), decide (min b v = b), decide (min c w = c)] <;> rfl
  rw [e, Bool.and_eq_true, allB_iff, allB_iff]
  simp only [List.mem_cons, List.not_mem_nil, or_false, forall_eq_or_imp, forall_eq, decide_eq_true_eq]
  omega
theorem okN_mid {a b x : Int} (ha : okN a = true) (hb : okN b = true) (h1 : a ≤ x) (h2 : x ≤ b) : okN x = true := by
  rw [okN_iff] at *; omega
theorem mulE_0 {a b : Int} : mulE a b = 0 ↔ okN a = true ∧ okN b = true ∧ okN (mulP a b) = true := by
  unfold mulE
  cases okN a <;> cases okN b <;> cases okN (mulP a b) <;> simp
theorem mulE_p (a b : Int) : 0 ≤ mulE a b := by
  unfold mulE
  cases okN a <;> cases okN b <;> cases okN (mulP a b) <;> simp
theorem mulV_0 {a b : Int} (h : mulE a b = 0) : mulV a b = mulP a b := by
  obtain ⟨h1, h2, h3⟩ := mulE_0.1 h
  unfold mulV; rw [h1, h2, h3]; rfl
theorem mulP_mid {n a u x : Int} (h1 : a ≤ u) (h2 : u ≤ x) : min (mulP n a) (mulP n x) ≤ mulP n u ∧ mulP n u ≤ max (mulP n a) (mulP n x) := by
  unfold mulP
  rcases Int.le_total 0 n with h | h
  · have k1 := Int.ediv_le_ediv (c := 65536) (by decide) (Int.mul_le_mul_of_nonneg_left h1 h)
    have k2 := Int.ediv_le_ediv (c := 65536) (by decide) (Int.mul_le_mul_of_nonneg_left h2 h)
    omega
  · have k1 := Int.ediv_le_ediv (c := 65536) (by decide) (show n * u ≤ n * a by have := Int.mul_le_mul_of_nonneg_left h1 (show 0 ≤ -n by omega); simp only [Int.neg_mul] at this; omega)
    have k2 := Int.ediv_le_ediv (c := 65536) (by decide) (show n * x ≤ n * u by have := Int.mul_le_mul_of_nonneg_left h2 (show 0 ≤ -n by omega); simp only [Int.neg_mul] at this; omega)
    omega
theorem mul_mid {n a u x : Int} (e1 : mulE n a = 0) (e2 : mulE n x = 0) (h1 : a ≤ u) (h2 : u ≤ x) : mulE n u = 0 ∧ min (mulV n a) (mulV n x) ≤ mulV n u ∧ mulV n u ≤ max (mulV n a) (mulV n x) := by
  obtain ⟨p1, p2, p3⟩ := mulE_0.1 e1
  obtain ⟨q1, q2, q3⟩ := mulE_0.1 e2
  have m := mulP_mid (n := n) h1 h2
  have e : mulE n u = 0 := mulE_0.2 ⟨p1, okN_mid p2 q2 h1 h2, by rw [okN_iff] at *; omega⟩
  rw [mulV_0 e1, mulV_0 e2, mulV_0 e]
  exact ⟨e, m⟩
theorem addEL_0 {a b c d : Int} : addEL [a, b, c, d] = 0 ↔ okN a = true ∧ okN b = true ∧ okN c = true ∧ okN d = true ∧ okN (a + b + c + d) = true := by
  have hv : sumF 4 (nthI [a, b, c, d]) = a + b + c + d := by show 0 + a + b + c + d = _; omega
  have hr : rightF 4 (nthI [a, b, c, d]) = (true && okN a && okN b && okN c && okN d) := rfl
  show addE 4 (nthI [a, b, c, d]) = 0 ↔ _
  unfold addE
  rw [hv, hr]
  cases okN a <;> cases okN b <;> cases okN c <;> cases okN d <;> cases okN (a + b + c + d) <;> simp <;> decide
theorem addE_p (n : Nat) (x : Nat → Int) : 0 ≤ addE n x := by
  unfold addE
  cases rightF n x && Nat.ble n 1024 <;> cases okN (sumF n x) <;> simp
theorem addEL_p (l : List Int) : 0 ≤ addEL l := addE_p _ _
structure En (n0 n1 n2 m a b c x y z : Int) : Prop where
  a0 : mulE n0 a = 0
  x0 : mulE n0 x = 0
  a1 : mulE n1 b = 0
  x1 : mulE n1 y = 0
  a2 : mulE n2 c = 0
  x2 : mulE n2 z = 0
  lo : addEL (loL n0 n1 n2 m a b c x y z) = 0
  hi : addEL (hiL n0 n1 n2 m a b c x y z) = 0
  L : enL n0 n1 n2 m a b c x y z = m + min (mulV n0 a) (mulV n0 x) + min (mulV n1 b) (mulV n1 y) + min (mulV n2 c) (mulV n2 z)
  H : enH n0 n1 n2 m a b c x y z = m + max (mulV n0 a) (mulV n0 x) + max (mulV n1 b) (mulV n1 y) + max (mulV n2 c) (mulV n2 z)
theorem en_0 {n0 n1 n2 m a b c x y z : Int} (h : enE n0 n1 n2 m a b c x y z = 0) : En n0 n1 n2 m a b c x y z := by
  have hL : enL n0 n1 n2 m a b c x y z = addVL (loL n0 n1 n2 m a b c x y z) := by unfold enL; rw [h]; rfl
  have hH : enH n0 n1 n2 m a b c x y z = addVL (hiL n0 n1 n2 m a b c x y z) := by unfold enH; rw [h]; rfl
  unfold enE at h
  by_cases q0 : max (mulE n0 a) (mulE n0 x) = 0
  · by_cases q1 : max (mulE n1 b) (mulE n1 y) = 0
    · by_cases q2 : max (mulE n2 c) (mulE n2 z) = 0
      · by_cases q3 : max (addEL (loL n0 n1 n2 m a b c x y z)) (addEL (hiL n0 n1 n2 m a b c x y z)) = 0
        · have p0 := mulE_p n0 a; have p1 := mulE_p n0 x; have p2 := mulE_p n1 b; have p3 := mulE_p n1 y; have p4 := mulE_p n2 c; have p5 := mulE_p n2 z
          have p6 := addEL_p (loL n0 n1 n2 m a b c x y z); have p7 := addEL_p (hiL n0 n1 n2 m a b c x y z)
          have lo : addEL (loL n0 n1 n2 m a b c x y z) = 0 := by omega
          have hi : addEL (hiL n0 n1 n2 m a b c x y z) = 0 := by omega
          exact ⟨by omega, by omega, by omega, by omega, by omega, by omega, lo, hi, by rw [hL]; exact add_ex lo, by rw [hH]; exact add_ex hi⟩
        · simp [q0, q1, q2, q3] at h
      · simp [q0, q1, q2] at h
    · simp [q0, q1] at h
  · simp [q0] at h
/-- A row by what lies between. -/
theorem row_mid {n0 n1 n2 m a b c x y z u v w : Int} (h : enE n0 n1 n2 m a b c x y z = 0) (h0 : a ≤ u) (h1 : u ≤ x) (h2 : b ≤ v) (h3 : v ≤ y) (h4 : c ≤ w) (h5 : w ≤ z) :
    prodE n0 n1 n2 u v w m = 0 ∧ prodV n0 n1 n2 u v w m = m + mulV n0 u + mulV n1 v + mulV n2 w ∧ mulE n0 u = 0 ∧ mulE n1 v = 0 ∧ mulE n2 w = 0 ∧
    enL n0 n1 n2 m a b c x y z ≤ m + mulV n0 u + mulV n1 v + mulV n2 w ∧ m + mulV n0 u + mulV n1 v + mulV n2 w ≤ enH n0 n1 n2 m a b c x y z := by
  have e := en_0 h
  obtain ⟨g0, l0, r0⟩ := mul_mid e.a0 e.x0 h0 h1
  obtain ⟨g1, l1, r1⟩ := mul_mid e.a1 e.x1 h2 h3
  obtain ⟨g2, l2, r2⟩ := mul_mid e.a2 e.x2 h4 h5
  obtain ⟨i0, i1, i2, i3, i4⟩ := addEL_0.1 e.lo
  obtain ⟨j0, j1, j2, j3, j4⟩ := addEL_0.1 e.hi
  have hs : addEL [m, mulV n0 u, mulV n1 v, mulV n2 w] = 0 := addEL_0.2 ⟨i0, okN_mid i1 j1 l0 r0, okN_mid i2 j2 l1 r1, okN_mid i3 j3 l2 r2, by rw [okN_iff] at *; omega⟩
  have hp : prodE n0 n1 n2 u v w m = 0 := by unfold prodE; rw [g0, g1, g2, hs]; rfl
  refine ⟨hp, (prod_0 hp).2.2.2, g0, g1, g2, ?_, ?_⟩
  · rw [e.L]; omega
  · rw [e.H]; omega
theorem or_f {p q : Bool} (h : (bif !p then true else !q) = false) : p = true ∧ q = true := by cases p <;> cases q <;> simp at h ⊢
theorem right_3 {a b c : Int} : rightL [a, b, c] = true ↔ okN a = true ∧ okN b = true ∧ okN c = true := by
  show (true && okN a && okN b && okN c) = true ↔ _
  cases okN a <;> cases okN b <;> cases okN c <;> simp
theorem bx_ok {a b c x y z : Int} (h : bxR a b c x y z = true) : okN a = true ∧ okN b = true ∧ okN c = true ∧ okN x = true ∧ okN y = true ∧ okN z = true := by
  unfold bxR at h
  cases h1 : rightL [a, b, c]
  · rw [h1] at h; cases h
  cases h2 : rightL [x, y, z]
  · rw [h1, h2] at h; cases h
  obtain ⟨k1, k2, k3⟩ := right_3.1 h1
  obtain ⟨k4, k5, k6⟩ := right_3.1 h2
  exact ⟨k1, k2, k3, k4, k5, k6⟩
theorem carry_mid {f g : Nat → Int} {a b c x y z : Int} (h : caE f a b c x y z = 0) (h0 : a ≤ g 0) (h1 : g 0 ≤ x) (h2 : b ≤ g 1) (h3 : g 1 ≤ y) (h4 : c ≤ g 2) (h5 : g 2 ≤ z) :
    apE f g = 0 ∧ ∀ i, i < 3 → caL f a b c x y z i ≤ apV f g i ∧ apV f g i ≤ caH f a b c x y z i := by
  unfold caE at h
  cases hG : caG f a b c x y z
  · rw [hG] at h
    by_cases q0 : caR f a b c x y z 0 = 0
    · by_cases q1 : caR f a b c x y z 1 = 0
      · by_cases q2 : caR f a b c x y z 2 = 0
        · have hq : ∀ i, i < 3 → caR f a b c x y z i = 0 := fun i hi => by
            match i, hi with
            | 0, _ => exact q0
            | 1, _ => exact q1
            | 2, _ => exact q2
          obtain ⟨hm, hb⟩ := or_f (show (bif !rightL (l12 f) then true else !bxR a b c x y z) = false from hG)
          obtain ⟨k1, k2, k3, k4, k5, k6⟩ := bx_ok hb
          have hr : rightL (l3_ g) = true := right_3.2 ⟨okN_mid k1 k4 h0 h1, okN_mid k2 k5 h2 h3, okN_mid k3 k6 h4 h5⟩
          have hrow := fun i (hi : i < 3) => row_mid (show enE (f (4 * i)) (f (4 * i + 1)) (f (4 * i + 2)) (f (4 * i + 3)) a b c x y z = 0 from hq i hi) h0 h1 h2 h3 h4 h5
          have hE : apE f g = 0 := by
            unfold apE; rw [hm, hr]
            exact fe_zero fun j hj => by rw [Nat.zero_add]; exact (hrow j hj).1
          refine ⟨hE, fun i hi => ?_⟩
          have hv : ∀ v : Int, caV f a b c x y z v = v := fun v => by unfold caV; rw [hG, q0, q1, q2]; rfl
          have ha : apV f g i = prodV (f (4 * i)) (f (4 * i + 1)) (f (4 * i + 2)) (g 0) (g 1) (g 2) (f (4 * i + 3)) := by unfold apV; rw [hE]; rfl
          unfold caL caH
          rw [hv, hv, ha, (hrow i hi).2.1]
          exact ⟨(hrow i hi).2.2.2.2.2.1, (hrow i hi).2.2.2.2.2.2⟩
        · simp [q0, q1, q2] at h
      · simp [q0, q1] at h
    · simp [q0] at h
  · rw [hG] at h; simp at h
theorem add2_ex {a b : Int} (h : addEL [a, b] = 0) : addVL [a, b] = a + b := by
  have hv : sumF 2 (nthI [a, b]) = a + b := by show 0 + a + b = _; omega
  have h' : addE 2 (nthI [a, b]) = 0 := h
  show addV 2 (nthI [a, b]) = _
  unfold addE at h'; unfold addV
  rw [hv] at *
  cases hb : rightF 2 (nthI [a, b]) && Nat.ble 2 1024
  · rw [hb] at h'; cases h'
  · rw [hb] at h'
    cases hi : okN (a + b)
    · rw [hi] at h'; cases h'
    · rfl
theorem add3_ex {a b c : Int} (h : addEL [a, b, c] = 0) : addVL [a, b, c] = a + b + c := by
  have hv : sumF 3 (nthI [a, b, c]) = a + b + c := by show 0 + a + b + c = _; omega
  have h' : addE 3 (nthI [a, b, c]) = 0 := h
  show addV 3 (nthI [a, b, c]) = _
  unfold addE at h'; unfold addV
  rw [hv] at *
  cases hb : rightF 3 (nthI [a, b, c]) && Nat.ble 3 1024
  · rw [hb] at h'; cases h'
  · rw [hb] at h'
    cases hi : okN (a + b + c)
    · rw [hi] at h'; cases h'
    · rfl
theorem dot_0 {a b c x y z : Int} (h : dotE a b c x y z = 0) : dotV a b c x y z = mulV a x + mulV b y + mulV c z := by
  unfold dotE at h; unfold dotV
  cases hG : dotG a b c x y z
  · rw [hG] at h
    by_cases h1 : mulE a x = 0
    · by_cases h2 : mulE b y = 0
      · by_cases h3 : mulE c z = 0
        · simp only [h1, h2, h3, decide_true, Bool.not_true, cond_false] at h ⊢
          exact add3_ex h
        · simp [h1, h2, h3] at h
      · simp [h1, h2] at h
    · simp [h1] at h
  · rw [hG] at h; simp at h
theorem span_mid {n0 n1 n2 d a b c x y z u v w : Int} (h : spE n0 n1 n2 d a b c x y z = 0) (hd : diE n0 n1 n2 d u v w = 0) (h0 : a ≤ u) (h1 : u ≤ x) (h2 : b ≤ v) (h3 : v ≤ y) (h4 : c ≤ w) (h5 : w ≤ z) :
    spL n0 n1 n2 d a b c x y z ≤ diV n0 n1 n2 d u v w ∧ diV n0 n1 n2 d u v w ≤ spH n0 n1 n2 d a b c x y z := by
  unfold spE at h; unfold spL spH
  cases hG : spG n0 n1 n2 d a b c x y z
  · rw [hG] at h
    have h : enE n0 n1 n2 d a b c x y z = 0 := h
    have hr := row_mid h h0 h1 h2 h3 h4 h5
    unfold diE at hd; unfold diV
    cases hH : diG n0 n1 n2 d u v w
    · rw [hH] at hd
      by_cases q : dotE n0 n1 n2 u v w = 0
      · simp only [q, decide_true, Bool.not_true, cond_false] at hd ⊢
        rw [add2_ex hd, dot_0 q]
        have := hr.2.2.2.2.2
        omega
      · simp [q] at hd
    · rw [hH] at hd; simp at hd
  · rw [hG] at h; simp at h
theorem join_mid {a b c x y z a' b' c' x' y' z' u v w : Int} (h : joE a b c x y z a' b' c' x' y' z' = 0) (hi : inB a b c x y z u v w = true) :
    inB (joV a b c x y z a' b' c' x' y' z' (min (min a a) a')) (joV a b c x y z a' b' c' x' y' z' (min (min b b) b')) (joV a b c x y z a' b' c' x' y' z' (min (min c c) c')) (joV a b c x y z a' b' c' x' y' z' (max (max x x) x')) (joV a b c x y z a' b' c' x' y' z' (max (max y y) y')) (joV a b c x y z a' b' c' x' y' z' (max (max z z) z')) u v w = true := by
  unfold joE at h
  cases hG : joG a b c x y z a' b' c' x' y' z'
  · have hv : ∀ v : Int, joV a b c x y z a' b' c' x' y' z' v = v := fun v => by unfold joV; rw [hG]; rfl
    simp only [hv]
    rw [inB_iff] at *
    omega
  · rw [hG] at h; simp at h
end Go.Proofs.Ytmgckodihnmjoaa
