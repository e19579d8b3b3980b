/-
  The law AffineNumbers, plain: matrices of whole numbers; products, exact; the one that leaves all. Conditions: said with each.
-/
import Derived.Test.YtmgckodihnmjoaaAfD
set_option linter.unusedVariables false
set_option linter.unusedSimpArgs false
set_option maxRecDepth 20000
namespace Go.Proofs.Ytmgckodihnmjoaa

theorem mul_ex {x y : Int} (h : mulE x y = 0) : mulV x y = x * y / 65536 := by
  unfold mulE at h; unfold mulV
  cases hb : okN x && okN y
  · rw [hb] at h; cases h
  · rw [hb] at h
    cases hi : okN (mulP x y)
    · rw [hi] at h; cases h
    · rfl
theorem mul_wh {p q : Int} (h : mulE (65536 * p) (65536 * q) = 0) : mulV (65536 * p) (65536 * q) = 65536 * (p * q) := by
  rw [mul_ex h, show 65536 * p * (65536 * q) = 65536 * (p * q) * 65536 by grind]
  exact Int.mul_ediv_cancel _ (by decide)
theorem add_ex {a b c d : Int} (h : addEL [a, b, c, d] = 0) : addVL [a, b, c, d] = a + b + c + d := by
  have hv : sumF 4 (nthI [a, b, c, d]) = a + b + c + d := by show 0 + a + b + c + d = _; omega
  have h' : addE 4 (nthI [a, b, c, d]) = 0 := h
  show addV 4 (nthI [a, b, c, d]) = _
  unfold addE at h'; unfold addV
  rw [hv] at *
  cases hb : rightF 4 (nthI [a, b, c, d]) && Nat.ble 4 1024
  · rw [hb] at h'; cases h'
  · rw [hb] at h'
    cases hi : okN (a + b + c + d)
    · rw [hi] at h'; cases h'
    · rfl
theorem prod_0 {a b c x y z m : Int} (h : prodE a b c x y z m = 0) : mulE a x = 0 ∧ mulE b y = 0 ∧ mulE c z = 0 ∧ prodV a b c x y z m = m + mulV a x + mulV b y + mulV c z := by
  unfold prodE at h; unfold prodV
  by_cases h1 : mulE a x = 0
  · by_cases h2 : mulE b y = 0
    · by_cases h3 : mulE c z = 0
      · simp only [h1, h2, h3, decide_true, Bool.not_true, cond_false] at h ⊢
        exact ⟨trivial, trivial, trivial, add_ex h⟩
      · simp only [h1, h2, h3, decide_true, decide_false, Bool.not_true, Bool.not_false, cond_false, cond_true] at h
    · simp only [h1, h2, decide_true, decide_false, Bool.not_true, Bool.not_false, cond_false, cond_true] at h
  · simp only [h1, decide_false, Bool.not_false, cond_true] at h
theorem prod_wh {p1 p2 p3 q1 q2 q3 mo : Int} (h : prodE (65536 * p1) (65536 * p2) (65536 * p3) (65536 * q1) (65536 * q2) (65536 * q3) (65536 * mo) = 0) :
    prodV (65536 * p1) (65536 * p2) (65536 * p3) (65536 * q1) (65536 * q2) (65536 * q3) (65536 * mo) = 65536 * (mo + p1 * q1 + p2 * q2 + p3 * q3) := by
  obtain ⟨h1, h2, h3, h4⟩ := prod_0 h
  rw [h4, mul_wh h1, mul_wh h2, mul_wh h3]
  grind
theorem fe_all {f : Nat → Int} : ∀ {n i : Nat}, fe f n i = 0 → ∀ j, j < n → f (i + j) = 0
  | 0, _, _, j, hj => by omega
  | n + 1, i, h, j, hj => by
    unfold fe at h
    by_cases h1 : f i = 0
    · simp only [h1, decide_true, Bool.not_true, cond_false] at h
      cases j with
      | zero => exact h1
      | succ j => rw [show i + (j + 1) = i + 1 + j by omega]; exact fe_all h j (by omega)
    · simp only [h1, decide_false, Bool.not_false, cond_true] at h
theorem fe_zero {f : Nat → Int} : ∀ {n i : Nat}, (∀ j, j < n → f (i + j) = 0) → fe f n i = 0
  | 0, _, _ => rfl
  | n + 1, i, h => by
    unfold fe
    have h0 := h 0 (by omega)
    simp only [Nat.add_zero] at h0
    simp only [h0, decide_true, Bool.not_true, cond_false]
    exact fe_zero fun j hj => by rw [show i + 1 + j = i + (j + 1) by omega]; exact h _ (by omega)
theorem mu_0 {f g : Nat → Int} (h : muE f g = 0) : ∀ j, j < 12 → celE prodE f g j = 0 ∧ muV f g j = celV prodV f g j := by
  unfold muE at h
  cases hb : rightL (l12 f) && rightL (l12 g)
  · rw [hb] at h; cases h
  · rw [hb] at h
    have h' : twE prodE f g = 0 := h
    intro j hj
    have := fe_all (show fe (celE prodE f g) 12 0 = 0 from h') j hj
    rw [Nat.zero_add] at this
    refine ⟨this, ?_⟩
    unfold muV twV
    rw [hb, h']; rfl
theorem ap_0 {f g : Nat → Int} (h : apE f g = 0) : ∀ j, j < 3 → apC f g j = 0 ∧ apV f g j = apD f g j := by
  intro j hj
  have hv : apV f g j = apD f g j := by unfold apV; rw [h]; rfl
  unfold apE at h
  cases hb : rightL (l12 f) && rightL (l3_ g)
  · rw [hb] at h; cases h
  · rw [hb] at h
    have := fe_all (show fe (apC f g) 3 0 = 0 from h) j hj
    rw [Nat.zero_add] at this
    exact ⟨this, hv⟩
/-- The product of matrices of whole numbers. -/
def wmul (A B : Nat → Int) (j : Nat) : Int := morE A j + A (j / 4 * 4) * B (j % 4) + A (j / 4 * 4 + 1) * B (4 + j % 4) + A (j / 4 * 4 + 2) * B (8 + j % 4)
def wapp (A V : Nat → Int) (r : Nat) : Int := A (4 * r + 3) + A (4 * r) * V 0 + A (4 * r + 1) * V 1 + A (4 * r + 2) * V 2
theorem mor_wh {a A : Nat → Int} (ha : ∀ j, j < 12 → a j = 65536 * A j) {j : Nat} (hj : j < 12) : morE a j = 65536 * morE A j := by
  unfold morE
  split
  · exact ha j hj
  · rfl
theorem mu_wh {a b A B : Nat → Int} (ha : ∀ j, j < 12 → a j = 65536 * A j) (hb : ∀ j, j < 12 → b j = 65536 * B j) (h : muE a b = 0) : ∀ j, j < 12 → muV a b j = 65536 * wmul A B j := by
  intro j hj
  obtain ⟨h1, h2⟩ := mu_0 h j hj
  rw [h2]
  unfold celE at h1
  unfold celV wmul
  rw [mor_wh ha hj, ha _ (by omega), ha _ (by omega), ha _ (by omega), hb _ (by omega), hb _ (by omega), hb _ (by omega)] at h1 ⊢
  exact prod_wh h1
theorem ap_wh {m v M V : Nat → Int} (hm : ∀ j, j < 12 → m j = 65536 * M j) (hv : ∀ j, j < 3 → v j = 65536 * V j) (h : apE m v = 0) : ∀ r, r < 3 → apV m v r = 65536 * wapp M V r := by
  intro r hr
  obtain ⟨h1, h2⟩ := ap_0 h r hr
  rw [h2]
  unfold apC at h1
  unfold apD wapp
  rw [hm _ (by omega), hm _ (by omega), hm _ (by omega), hm _ (by omega), hv _ (by omega), hv _ (by omega), hv _ (by omega)] at h1 ⊢
  exact prod_wh h1
theorem wmul_assoc (A B C : Nat → Int) : ∀ j, j < 12 → wmul (wmul A B) C j = wmul A (wmul B C) j := by
  intro j hj
  match j, hj with
  | 0, _ => simp [wmul, morE]; grind
  | 1, _ => simp [wmul, morE]; grind
  | 2, _ => simp [wmul, morE]; grind
  | 3, _ => simp [wmul, morE]; grind
  | 4, _ => simp [wmul, morE]; grind
  | 5, _ => simp [wmul, morE]; grind
  | 6, _ => simp [wmul, morE]; grind
  | 7, _ => simp [wmul, morE]; grind
  | 8, _ => simp [wmul, morE]; grind
  | 9, _ => simp [wmul, morE]; grind
  | 10, _ => simp [wmul, morE]; grind
  | 11, _ => simp [wmul, morE]; grind
theorem wapp_assoc (A B V : Nat → Int) : ∀ r, r < 3 → wapp (wmul A B) V r = wapp A (wapp B V) r := by
  intro r hr
  match r, hr with
  | 0, _ => simp [wapp, wmul, morE]; grind
  | 1, _ => simp [wapp, wmul, morE]; grind
  | 2, _ => simp [wapp, wmul, morE]; grind
theorem okN_0 : okN 0 = true := by decide
theorem okN_1 : okN 65536 = true := by decide
theorem mul_1l {y : Int} (h : okN y = true) : mulV 65536 y = y ∧ mulE 65536 y = 0 := by
  have h2 : mulP 65536 y = y := Int.mul_ediv_cancel_left _ (by decide)
  unfold mulV mulE
  rw [h2, h, okN_1]; exact ⟨rfl, rfl⟩
theorem mul_1r {y : Int} (h : okN y = true) : mulV y 65536 = y ∧ mulE y 65536 = 0 := by
  have h2 : mulP y 65536 = y := Int.mul_ediv_cancel _ (by decide)
  unfold mulV mulE
  rw [h2, h, okN_1]; exact ⟨rfl, rfl⟩
theorem mul_0l {y : Int} (h : okN y = true) : mulV 0 y = 0 ∧ mulE 0 y = 0 := by
  have h2 : mulP 0 y = 0 := by unfold mulP; rw [Int.zero_mul]; rfl
  unfold mulV mulE
  rw [h2, h, okN_0]; exact ⟨rfl, rfl⟩
theorem mul_0r {y : Int} (h : okN y = true) : mulV y 0 = 0 ∧ mulE y 0 = 0 := by
  have h2 : mulP y 0 = 0 := by unfold mulP; rw [Int.mul_zero]; rfl
  unfold mulV mulE
  rw [h2, h, okN_0]; exact ⟨rfl, rfl⟩
theorem add_4 {a b c d : Int} (ha : okN a = true) (hb : okN b = true) (hc : okN c = true) (hd : okN d = true) (hs : okN (a + b + c + d) = true) : addVL [a, b, c, d] = a + b + c + d ∧ addEL [a, b, c, d] = 0 := by
  have hv : sumF 4 (nthI [a, b, c, d]) = a + b + c + d := by show 0 + a + b + c + d = _; omega
  have hr : rightF 4 (nthI [a, b, c, d]) = true := by show (true && okN a && okN b && okN c && okN d) = true; rw [ha, hb, hc, hd]; rfl
  show addV 4 (nthI [a, b, c, d]) = _ ∧ addE 4 (nthI [a, b, c, d]) = 0
  unfold addV addE
  rw [hv, hr, hs]; exact ⟨rfl, rfl⟩
theorem prod_of {x y z x' y' z' m a b c : Int} (h1 : mulV x x' = a ∧ mulE x x' = 0) (h2 : mulV y y' = b ∧ mulE y y' = 0) (h3 : mulV z z' = c ∧ mulE z z' = 0) (ha : okN a = true) (hb : okN b = true) (hc : okN c = true) (hm : okN m = true) (hs : okN (m + a + b + c) = true) :
    prodV x y z x' y' z' m = m + a + b + c ∧ prodE x y z x' y' z' m = 0 := by
  unfold prodV prodE
  simp only [h1.1, h1.2, h2.1, h2.2, h3.1, h3.2, decide_true, Bool.not_true, cond_false]
  exact add_4 hm ha hb hc hs
theorem mat_in {m : Nat → Int} (h : rightL (l12 m) = true) : ∀ j, j < 12 → okN (m j) = true := by
  intro j hj
  have h := allN_iff.1 (show allN 12 (fun i => okN (nthI (l12 m) i)) = true from h) j hj
  match j, hj with
  | 0, _ => exact h
  | 1, _ => exact h
  | 2, _ => exact h
  | 3, _ => exact h
  | 4, _ => exact h
  | 5, _ => exact h
  | 6, _ => exact h
  | 7, _ => exact h
  | 8, _ => exact h
  | 9, _ => exact h
  | 10, _ => exact h
  | 11, _ => exact h
theorem vec_in {m : Nat → Int} (h : rightL (l3_ m) = true) : ∀ j, j < 3 → okN (m j) = true := by
  intro j hj
  have h := allN_iff.1 (show allN 3 (fun i => okN (nthI (l3_ m) i)) = true from h) j hj
  match j, hj with
  | 0, _ => exact h
  | 1, _ => exact h
  | 2, _ => exact h
theorem id_right : rightL (l12 sameM) = true := by decide
theorem id_left {m : Nat → Int} (h : rightL (l12 m) = true) : ∀ j, j < 12 → celV prodV sameM m j = m j ∧ celE prodE sameM m j = 0 := by
  have hi := mat_in h
  intro j hj
  unfold celV celE
  match j, hj with
  | 0, _ => have h := prod_of (m := 0) (mul_1l (hi 0 (by decide))) (mul_0l (hi 4 (by decide))) (mul_0l (hi 8 (by decide))) (hi 0 (by decide)) okN_0 okN_0 okN_0 (by simpa using hi 0 (by decide)); simp only [Int.zero_add, Int.add_zero] at h; exact h
  | 1, _ => have h := prod_of (m := 0) (mul_1l (hi 1 (by decide))) (mul_0l (hi 5 (by decide))) (mul_0l (hi 9 (by decide))) (hi 1 (by decide)) okN_0 okN_0 okN_0 (by simpa using hi 1 (by decide)); simp only [Int.zero_add, Int.add_zero] at h; exact h
  | 2, _ => have h := prod_of (m := 0) (mul_1l (hi 2 (by decide))) (mul_0l (hi 6 (by decide))) (mul_0l (hi 10 (by decide))) (hi 2 (by decide)) okN_0 okN_0 okN_0 (by simpa using hi 2 (by decide)); simp only [Int.zero_add, Int.add_zero] at h; exact h
  | 3, _ => have h := prod_of (m := 0) (mul_1l (hi 3 (by decide))) (mul_0l (hi 7 (by decide))) (mul_0l (hi 11 (by decide))) (hi 3 (by decide)) okN_0 okN_0 okN_0 (by simpa using hi 3 (by decide)); simp only [Int.zero_add, Int.add_zero] at h; exact h
  | 4, _ => have h := prod_of (m := 0) (mul_0l (hi 0 (by decide))) (mul_1l (hi 4 (by decide))) (mul_0l (hi 8 (by decide))) okN_0 (hi 4 (by decide)) okN_0 okN_0 (by simpa using hi 4 (by decide)); simp only [Int.zero_add, Int.add_zero] at h; exact h
  | 5, _ => have h := prod_of (m := 0) (mul_0l (hi 1 (by decide))) (mul_1l (hi 5 (by decide))) (mul_0l (hi 9 (by decide))) okN_0 (hi 5 (by decide)) okN_0 okN_0 (by simpa using hi 5 (by decide)); simp only [Int.zero_add, Int.add_zero] at h; exact h
  | 6, _ => have h := prod_of (m := 0) (mul_0l (hi 2 (by decide))) (mul_1l (hi 6 (by decide))) (mul_0l (hi 10 (by decide))) okN_0 (hi 6 (by decide)) okN_0 okN_0 (by simpa using hi 6 (by decide)); simp only [Int.zero_add, Int.add_zero] at h; exact h
  | 7, _ => have h := prod_of (m := 0) (mul_0l (hi 3 (by decide))) (mul_1l (hi 7 (by decide))) (mul_0l (hi 11 (by decide))) okN_0 (hi 7 (by decide)) okN_0 okN_0 (by simpa using hi 7 (by decide)); simp only [Int.zero_add, Int.add_zero] at h; exact h
  | 8, _ => have h := prod_of (m := 0) (mul_0l (hi 0 (by decide))) (mul_0l (hi 4 (by decide))) (mul_1l (hi 8 (by decide))) okN_0 okN_0 (hi 8 (by decide)) okN_0 (by simpa using hi 8 (by decide)); simp only [Int.zero_add, Int.add_zero] at h; exact h
  | 9, _ => have h := prod_of (m := 0) (mul_0l (hi 1 (by decide))) (mul_0l (hi 5 (by decide))) (mul_1l (hi 9 (by decide))) okN_0 okN_0 (hi 9 (by decide)) okN_0 (by simpa using hi 9 (by decide)); simp only [Int.zero_add, Int.add_zero] at h; exact h
  | 10, _ => have h := prod_of (m := 0) (mul_0l (hi 2 (by decide))) (mul_0l (hi 6 (by decide))) (mul_1l (hi 10 (by decide))) okN_0 okN_0 (hi 10 (by decide)) okN_0 (by simpa using hi 10 (by decide)); simp only [Int.zero_add, Int.add_zero] at h; exact h
  | 11, _ => have h := prod_of (m := 0) (mul_0l (hi 3 (by decide))) (mul_0l (hi 7 (by decide))) (mul_1l (hi 11 (by decide))) okN_0 okN_0 (hi 11 (by decide)) okN_0 (by simpa using hi 11 (by decide)); simp only [Int.zero_add, Int.add_zero] at h; exact h
theorem id_behind {m : Nat → Int} (h : rightL (l12 m) = true) : ∀ j, j < 12 → celV prodV m sameM j = m j ∧ celE prodE m sameM j = 0 := by
  have hi := mat_in h
  intro j hj
  unfold celV celE
  match j, hj with
  | 0, _ => have h := prod_of (m := 0) (mul_1r (hi 0 (by decide))) (mul_0r (hi 1 (by decide))) (mul_0r (hi 2 (by decide))) (hi 0 (by decide)) okN_0 okN_0 okN_0 (by simpa using hi 0 (by decide)); simp only [Int.zero_add, Int.add_zero] at h; exact h
  | 1, _ => have h := prod_of (m := 0) (mul_0r (hi 0 (by decide))) (mul_1r (hi 1 (by decide))) (mul_0r (hi 2 (by decide))) okN_0 (hi 1 (by decide)) okN_0 okN_0 (by simpa using hi 1 (by decide)); simp only [Int.zero_add, Int.add_zero] at h; exact h
  | 2, _ => have h := prod_of (m := 0) (mul_0r (hi 0 (by decide))) (mul_0r (hi 1 (by decide))) (mul_1r (hi 2 (by decide))) okN_0 okN_0 (hi 2 (by decide)) okN_0 (by simpa using hi 2 (by decide)); simp only [Int.zero_add, Int.add_zero] at h; exact h
  | 3, _ => have h := prod_of (m := m 3) (mul_0r (hi 0 (by decide))) (mul_0r (hi 1 (by decide))) (mul_0r (hi 2 (by decide))) okN_0 okN_0 okN_0 (hi 3 (by decide)) (by simpa using hi 3 (by decide)); simp only [Int.zero_add, Int.add_zero] at h; exact h
  | 4, _ => have h := prod_of (m := 0) (mul_1r (hi 4 (by decide))) (mul_0r (hi 5 (by decide))) (mul_0r (hi 6 (by decide))) (hi 4 (by decide)) okN_0 okN_0 okN_0 (by simpa using hi 4 (by decide)); simp only [Int.zero_add, Int.add_zero] at h; exact h
  | 5, _ => have h := prod_of (m := 0) (mul_0r (hi 4 (by decide))) (mul_1r (hi 5 (by decide))) (mul_0r (hi 6 (by decide))) okN_0 (hi 5 (by decide)) okN_0 okN_0 (by simpa using hi 5 (by decide)); simp only [Int.zero_add, Int.add_zero] at h; exact h
  | 6, _ => have h := prod_of (m := 0) (mul_0r (hi 4 (by decide))) (mul_0r (hi 5 (by decide))) (mul_1r (hi 6 (by decide))) okN_0 okN_0 (hi 6 (by decide)) okN_0 (by simpa using hi 6 (by decide)); simp only [Int.zero_add, Int.add_zero] at h; exact h
  | 7, _ => have h := prod_of (m := m 7) (mul_0r (hi 4 (by decide))) (mul_0r (hi 5 (by decide))) (mul_0r (hi 6 (by decide))) okN_0 okN_0 okN_0 (hi 7 (by decide)) (by simpa using hi 7 (by decide)); simp only [Int.zero_add, Int.add_zero] at h; exact h
  | 8, _ => have h := prod_of (m := 0) (mul_1r (hi 8 (by decide))) (mul_0r (hi 9 (by decide))) (mul_0r (hi 10 (by decide))) (hi 8 (by decide)) okN_0 okN_0 okN_0 (by simpa using hi 8 (by decide)); simp only [Int.zero_add, Int.add_zero] at h; exact h
  | 9, _ => have h := prod_of (m := 0) (mul_0r (hi 8 (by decide))) (mul_1r (hi 9 (by decide))) (mul_0r (hi 10 (by decide))) okN_0 (hi 9 (by decide)) okN_0 okN_0 (by simpa using hi 9 (by decide)); simp only [Int.zero_add, Int.add_zero] at h; exact h
  | 10, _ => have h := prod_of (m := 0) (mul_0r (hi 8 (by decide))) (mul_0r (hi 9 (by decide))) (mul_1r (hi 10 (by decide))) okN_0 okN_0 (hi 10 (by decide)) okN_0 (by simpa using hi 10 (by decide)); simp only [Int.zero_add, Int.add_zero] at h; exact h
  | 11, _ => have h := prod_of (m := m 11) (mul_0r (hi 8 (by decide))) (mul_0r (hi 9 (by decide))) (mul_0r (hi 10 (by decide))) okN_0 okN_0 okN_0 (hi 11 (by decide)) (by simpa using hi 11 (by decide)); simp only [Int.zero_add, Int.add_zero] at h; exact h
theorem id_app {v : Nat → Int} (h : rightL (l3_ v) = true) : ∀ r, r < 3 → apD sameM v r = v r ∧ apC sameM v r = 0 := by
  have hi := vec_in h
  intro r hr
  unfold apD apC
  match r, hr with
  | 0, _ => have h := prod_of (m := 0) (mul_1l (hi 0 (by decide))) (mul_0l (hi 1 (by decide))) (mul_0l (hi 2 (by decide))) (hi 0 (by decide)) okN_0 okN_0 okN_0 (by simpa using hi 0 (by decide)); simp only [Int.zero_add, Int.add_zero] at h; exact h
  | 1, _ => have h := prod_of (m := 0) (mul_0l (hi 0 (by decide))) (mul_1l (hi 1 (by decide))) (mul_0l (hi 2 (by decide))) okN_0 (hi 1 (by decide)) okN_0 okN_0 (by simpa using hi 1 (by decide)); simp only [Int.zero_add, Int.add_zero] at h; exact h
  | 2, _ => have h := prod_of (m := 0) (mul_0l (hi 0 (by decide))) (mul_0l (hi 1 (by decide))) (mul_1l (hi 2 (by decide))) okN_0 okN_0 (hi 2 (by decide)) okN_0 (by simpa using hi 2 (by decide)); simp only [Int.zero_add, Int.add_zero] at h; exact h
theorem mu_id {a b m : Nat → Int} (ha : rightL (l12 a) = true) (hb : rightL (l12 b) = true) (h : ∀ j, j < 12 → celV prodV a b j = m j ∧ celE prodE a b j = 0) : muE a b = 0 ∧ ∀ j, j < 12 → muV a b j = m j := by
  have h2 : twE prodE a b = 0 := fe_zero fun j hj => by rw [Nat.zero_add]; exact (h j hj).2
  refine ⟨by unfold muE; rw [ha, hb, h2]; rfl, fun j hj => ?_⟩
  unfold muV twV
  rw [ha, hb, h2]; exact (h j hj).1
theorem same_left {m : Nat → Int} (h : rightL (l12 m) = true) : muE sameM m = 0 ∧ ∀ j, j < 12 → muV sameM m j = m j := mu_id id_right h (id_left h)
theorem same_behind {m : Nat → Int} (h : rightL (l12 m) = true) : muE m sameM = 0 ∧ ∀ j, j < 12 → muV m sameM j = m j := mu_id h id_right (id_behind h)
theorem same_app {v : Nat → Int} (h : rightL (l3_ v) = true) : apE sameM v = 0 ∧ ∀ r, r < 3 → apV sameM v r = v r := by
  have h2 : apE sameM v = 0 := by
    unfold apE
    rw [id_right, h]
    exact fe_zero fun j hj => by rw [Nat.zero_add]; exact (id_app h j hj).2
  exact ⟨h2, fun r hr => by unfold apV; rw [h2]; exact (id_app h r hr).1⟩
end Go.Proofs.Ytmgckodihnmjoaa
