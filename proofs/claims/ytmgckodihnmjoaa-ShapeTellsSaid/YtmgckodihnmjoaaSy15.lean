/-
  The logic's rules for comparing structs and arrays. Conditions: none.
-/
import Derived.Test.YtmgckodihnmjoaaSy14
set_option linter.unusedVariables false
set_option linter.unusedSimpArgs false
set_option maxRecDepth 20000
namespace Go.Proofs.Ytmgckodihnmjoaa
open Go.RowKit

theorem forIn_all {α : Type} {P : Program} {w : World} {F : α → (Option Bool × Unit) → Sem (ForInStep (Option Bool × Unit))} {b : α → Bool} : ∀ l : List α, (∀ x ∈ l, (F x (none, ())).run P w = .ok (if b x then .yield (none, ()) else .done (some false, ())) w) →
    (forIn l (none, ()) F).run P w = .ok (if l.all b then (none, ()) else (some false, ())) w
  | [], _ => rfl
  | x :: l, h => by
    rw [List.forIn_cons, Sem.run_bind, h x (by simp)]
    simp only [Result.andThen_ok]
    cases hb : b x
    · simp [hb]
    · simp only [if_true, List.all_cons, hb, Bool.true_and]
      exact forIn_all l (fun y hy => h y (by simp [hy]))

/-- The kind of a cell that may be compared. -/
inductive Kd where
  | int | bool | str
def isKd : Kd → Value → Value → Bool → Prop
  | .int, x, y, c => ∃ k a b, x = .int k a ∧ y = .int k b ∧ c = (a == b)
  | .bool, x, y, c => ∃ a b, x = .bool a ∧ y = .bool b ∧ c = (a == b)
  | .str, x, y, c => ∃ a b, x = .string a ∧ y = .string b ∧ c = (a == b)
/-- Cells of these kinds, and whether they are the same, each. -/
structure KdL (ks : List Kd) (xs ys : List Value) (cs : List Bool) : Prop where
  lx : xs.length = ks.length
  ly : ys.length = ks.length
  lc : cs.length = ks.length
  at_ : ∀ (j : Nat) (k : Kd) (x y : Value) (c : Bool), ks[j]? = some k → xs[j]? = some x → ys[j]? = some y → cs[j]? = some c → isKd k x y c
theorem KdL.app {k1 k2 : List Kd} {xs ys : List Value} {cs : List Bool} (h : KdL (k1 ++ k2) xs ys cs) : KdL k1 (xs.take k1.length) (ys.take k1.length) (cs.take k1.length) ∧ KdL k2 (xs.drop k1.length) (ys.drop k1.length) (cs.drop k1.length) := by
  obtain ⟨h1, h2, h3, h4⟩ := h
  simp only [List.length_append] at h1 h2 h3
  refine ⟨⟨by simp; omega, by simp; omega, by simp; omega, fun j k x y c e1 e2 e3 e4 => ?_⟩, ⟨by simp; omega, by simp; omega, by simp; omega, fun j k x y c e1 e2 e3 e4 => ?_⟩⟩
  · rw [List.getElem?_take] at e2 e3 e4
    have hj := (List.getElem?_eq_some_iff.1 e1).1
    rw [if_pos hj] at e2 e3 e4
    exact h4 j k x y c (by rw [List.getElem?_append_left hj]; exact e1) e2 e3 e4
  · rw [List.getElem?_drop] at e2 e3 e4
    exact h4 (k1.length + j) k x y c (by rw [List.getElem?_append_right (by omega)]; simpa using e1) e2 e3 e4
mutual
/-- A type whose values are made of such cells. -/
inductive EqTy (E : Env) : Nat → TypeId → List Kd → Prop where
  | int {d : Nat} {t : TypeId} {k : IntKind} {tz tb : Nat} {tr : Option Value} (ht : lk E.tab t = some ⟨.int k, tz, tb, tr⟩) (hz : tz = 1) : EqTy E (d + 1) t [.int]
  | bool {d : Nat} {t : TypeId} {tz tb : Nat} {tr : Option Value} (ht : lk E.tab t = some ⟨.bool, tz, tb, tr⟩) (hz : tz = 1) : EqTy E (d + 1) t [.bool]
  | str {d : Nat} {t : TypeId} {tz tb : Nat} {tr : Option Value} (ht : lk E.tab t = some ⟨.string, tz, tb, tr⟩) (hz : tz = 1) : EqTy E (d + 1) t [.str]
  | arr {d : Nat} {t e : TypeId} {n tz tb : Nat} {tr : Option Value} {ks : List Kd} (ht : lk E.tab t = some ⟨.array n e, tz, tb, tr⟩) (hz : tz = n * ks.length) (he : EqTy E d e ks) {kk : List Kd} (hk : kk = (List.replicate n ks).flatten) : EqTy E (d + 1) t kk
  | struct {d : Nat} {t : TypeId} {fs : Array Field} {tz tb : Nat} {tr : Option Value} {ks : List Kd} (ht : lk E.tab t = some ⟨.struct fs, tz, tb, tr⟩) (hz : tz = ks.length) (hs : E.P.stoodInHeld t = false) (hf : EqFs E d fs.toList 0 ks) : EqTy E (d + 1) t ks
inductive EqFs (E : Env) : Nat → List Field → Nat → List Kd → Prop where
  | nil {d o : Nat} : EqFs E d [] o []
  | cons {d o : Nat} {f : Field} {r : List Field} {k1 k2 ks : List Kd} (ho : f.offset = o) (hn : f.name ≠ "_") (hf : EqTy E d f.type k1) (hr : EqFs E d r (o + k1.length) k2) (hk : ks = k1 ++ k2) : EqFs E d (f :: r) o ks
end
def wrapG : Bool → List Value → Value
  | true, l => .agg l.toArray
  | false, l => l.headD undef
section
variable {E : Env}
theorem EqTy.size {d : Nat} {t : TypeId} {ks : List Kd} (h : EqTy E d t ks) : ∃ ty, lk E.tab t = some ty ∧ (aggD ty.d = false → ks.length = 1) := by
  cases h with
  | int ht hz => exact ⟨_, ht, fun _ => rfl⟩
  | bool ht hz => exact ⟨_, ht, fun _ => rfl⟩
  | str ht hz => exact ⟨_, ht, fun _ => rfl⟩
  | arr ht hz he hkk => exact ⟨_, ht, fun h => by cases h⟩
  | struct ht hz hs hf => exact ⟨_, ht, fun h => by cases h⟩
/-- The size that the table tells is the number of cells. -/
def SizeOk (E : Env) (t : TypeId) (ks : List Kd) : Prop := ∃ ty, lk E.tab t = some ty ∧ ty.size = ks.length
theorem part_run {t : TypeId} {ks : List Kd} {xs : Array Value} {off : Nat} {d : Nat} (h : EqTy E d t ks) (hs : SizeOk E t ks) (hl : off + ks.length ≤ xs.size) (w : World) : ∃ ty, lk E.tab t = some ty ∧ (part t xs off).run E.P w = .ok (wrapG (aggD ty.d) ((xs.toList.drop off).take ks.length)) w := by
  obtain ⟨ty, h1, h2⟩ := hs
  obtain ⟨ty', h3, h4⟩ := h.size
  rw [h1] at h3; injection h3 with h3; subst h3
  refine ⟨ty, h1, ?_⟩
  obtain ⟨td, tz, tb, tr⟩ := ty
  dsimp only at h2 h4 ⊢
  cases hg : aggD td
  · have h5 := h4 hg
    have hr := run_part (P := E.P) (vs := xs) (off := off) (isagg h1 w) (szo h1 w) (by rw [hg]; simp; omega)
    rw [hr, hg, h5]
    have hx : off < xs.size := by omega
    simp [wrapG, List.take_one, List.head?_drop, hx]
  · have hr := run_part (P := E.P) (vs := xs) (off := off) (isagg h1 w) (szo h1 w) (by rw [hg]; simp; omega)
    rw [hr, hg]
    simp only [if_true, wrapG, h2]
    congr 2
    apply congrArg List.toArray
    apply List.ext_getElem?
    intro j
    rw [List.getElem?_map, List.getElem?_take]
    by_cases hj : j < ks.length
    · have hx : off + j < xs.size := by omega
      rw [List.getElem?_range hj, if_pos hj, List.getElem?_drop]
      simp [hx]
    · rw [if_neg hj, List.getElem?_eq_none (by simp; omega)]; rfl
theorem EqTy.sizeOk {d : Nat} {t : TypeId} {ks : List Kd} (h : EqTy E d t ks) : SizeOk E t ks := by
  cases h with
  | int ht hz => exact ⟨_, ht, hz⟩
  | bool ht hz => exact ⟨_, ht, hz⟩
  | str ht hz => exact ⟨_, ht, hz⟩
  | arr ht hz he hkk => exact ⟨_, ht, by rw [hz, hkk]; simp [List.length_flatten]⟩
  | struct ht hz hs hf => exact ⟨_, ht, hz⟩
theorem kd_one {k : Kd} {xs ys : List Value} {cs : List Bool} (h : KdL [k] xs ys cs) : ∃ x y c, xs = [x] ∧ ys = [y] ∧ cs = [c] ∧ isKd k x y c := by
  obtain ⟨h1, h2, h3, h4⟩ := h
  match xs, h1, ys, h2, cs, h3 with
  | [x], _, [y], _, [c], _ => exact ⟨x, y, c, rfl, rfl, rfl, h4 0 k x y c rfl rfl rfl rfl⟩
/-- A part's comparing. -/
theorem part_eq {d : Nat} {t : TypeId} {ks : List Kd} (he : EqTy E d t ks) (ih : ∀ (xs ys : List Value) (cs : List Bool), KdL ks xs ys cs → ∀ w ty, lk E.tab t = some ty → (Op.equalIn d t (wrapG (aggD ty.d) xs) (wrapG (aggD ty.d) ys)).run E.P w = .ok (cs.all id) w)
    {X Y : Array Value} {off : Nat} {cs : List Bool} (hk : KdL ks ((X.toList.drop off).take ks.length) ((Y.toList.drop off).take ks.length) cs) (hx : off + ks.length ≤ X.size) (hy : off + ks.length ≤ Y.size) (w : World) {γ : Type} (g : Bool → Sem γ) :
    (do let a ← part t X off; let b ← part t Y off; let c ← Op.equalIn d t a b; g c : Sem γ).run E.P w = (g (cs.all id)).run E.P w := by
  obtain ⟨ty, h1, h2⟩ := part_run he he.sizeOk hx w
  obtain ⟨ty', h3, h4⟩ := part_run he he.sizeOk hy w
  rw [h1] at h3; injection h3 with h3; subst h3
  simp only [Sem.run_bind, h2, h4, Result.andThen_ok, ih _ _ _ hk w ty h1]
theorem run_equal : ∀ (d : Nat) (t : TypeId) (ks : List Kd), EqTy E d t ks → ∀ (xs ys : List Value) (cs : List Bool), KdL ks xs ys cs → ∀ w ty, lk E.tab t = some ty →
    (Op.equalIn d t (wrapG (aggD ty.d) xs) (wrapG (aggD ty.d) ys)).run E.P w = .ok (cs.all id) w := by
  intro d
  induction d with
  | zero => intro t ks h; cases h
  | succ d ih =>
    intro t ks h xs ys cs hk w ty hty
    have hu := fun w => und hty w
    cases h with
    | int ht hz =>
      rw [ht] at hty; injection hty with hty; subst hty
      obtain ⟨x, y, c, rfl, rfl, rfl, k, a, b, rfl, rfl, rfl⟩ := kd_one hk
      rw [Op.equalIn]
      simp [wrapG, aggD, und ht w]
    | bool ht hz =>
      rw [ht] at hty; injection hty with hty; subst hty
      obtain ⟨x, y, c, rfl, rfl, rfl, a, b, rfl, rfl, rfl⟩ := kd_one hk
      rw [Op.equalIn]
      simp [wrapG, aggD, und ht w]
    | str ht hz =>
      rw [ht] at hty; injection hty with hty; subst hty
      obtain ⟨x, y, c, rfl, rfl, rfl, a, b, rfl, rfl, rfl⟩ := kd_one hk
      rw [Op.equalIn]
      simp [wrapG, aggD, und ht w]
    | @arr _ _ e n _ _ _ ke ht hz he _ hkk =>
      subst hkk
      rw [ht] at hty; injection hty with hty; subst hty
      obtain ⟨te, hte1, hte2⟩ := he.sizeOk
      have hlen : (List.replicate n ke).flatten.length = n * ke.length := by simp [List.length_flatten]
      obtain ⟨kx, ky, kc, kat⟩ := hk
      rw [hlen] at kx ky kc
      rw [Op.equalIn]
      simp only [wrapG, aggD, Sem.run_bind, und ht w, Result.andThen_ok]
      have hse : (sizeOf e).run E.P w = .ok ke.length w := by obtain ⟨a1, a2, a3, a4⟩ := te; dsimp only at hte2; rw [← hte2]; exact szo hte1 w
      simp only [hse, Result.andThen_ok, Std.Legacy.Range.forIn_eq_forIn_range']
      have key : ∀ i, i < n → KdL ke ((xs.drop (i * ke.length)).take ke.length) ((ys.drop (i * ke.length)).take ke.length) ((cs.drop (i * ke.length)).take ke.length) ∧ (i + 1) * ke.length ≤ n * ke.length := fun i hi => by
        have h1 : (i + 1) * ke.length ≤ n * ke.length := Nat.mul_le_mul_right _ hi
        have h2 : i * ke.length + ke.length ≤ n * ke.length := by rw [Nat.add_mul, Nat.one_mul] at h1; exact h1
        refine ⟨⟨by simp; omega, by simp; omega, by simp; omega, fun j k x y c e1 e2 e3 e4 => ?_⟩, h1⟩
        have hj := (List.getElem?_eq_some_iff.1 e1).1
        rw [List.getElem?_take, if_pos hj, List.getElem?_drop] at e2 e3 e4
        refine kat (i * ke.length + j) k x y c ?_ e2 e3 e4
        have : ∀ (n i : Nat), i < n → ((List.replicate n ke).flatten)[i * ke.length + j]? = ke[j]? := by
          intro n
          induction n with
          | zero => intro i hi; omega
          | succ n ihn =>
            intro i hi
            rw [List.replicate_succ, List.flatten_cons]
            cases i with
            | zero => rw [Nat.zero_mul, Nat.zero_add, List.getElem?_append_left hj]
            | succ i =>
              rw [List.getElem?_append_right (by rw [Nat.add_mul]; omega), Nat.add_mul, Nat.one_mul, show i * ke.length + ke.length + j - ke.length = i * ke.length + j by omega]
              exact ihn i (by omega)
        rw [this n i hi]; exact e1
      rw [forIn_all (b := fun i => ((cs.drop (i * ke.length)).take ke.length).all id)]
      · simp only [Result.andThen_ok]
        have hall : ((List.range' 0 (([:n] : Std.Legacy.Range).size) 1).all fun i => ((cs.drop (i * ke.length)).take ke.length).all id) = cs.all id := by
          have hsz : ([:n] : Std.Legacy.Range).size = n := by simp [Std.Legacy.Range.size]
          rw [hsz]
          clear kat kx ky hz key
          have : ∀ (n : Nat) (cs : List Bool) (s : Nat), cs.length = (s + n) * ke.length → ((List.range' s n 1).all fun i => ((cs.drop (i * ke.length)).take ke.length).all id) = (cs.drop (s * ke.length)).all id := by
            intro n
            induction n with
            | zero => intro cs s hc; simp only [List.range'_zero, List.all_nil]; rw [List.drop_eq_nil_of_le (by simp only [Nat.add_zero] at hc; omega)]; rfl
            | succ n ihn =>
              intro cs s hc
              rw [List.range'_succ, List.all_cons, ihn cs (s + 1) (by rw [hc]; congr 1; omega)]
              have e : cs.drop (s * ke.length) = (cs.drop (s * ke.length)).take ke.length ++ cs.drop ((s + 1) * ke.length) := by
                rw [Nat.add_mul, Nat.one_mul, ← List.drop_drop, List.take_append_drop]
              conv => rhs; rw [e, List.all_append]
          have := this n cs 0 (by simpa using kc)
          simpa using this
        have hall' : ((List.range' ([:n] : Std.Legacy.Range).start ([:n] : Std.Legacy.Range).size ([:n] : Std.Legacy.Range).step).all fun i => ((cs.drop (i * ke.length)).take ke.length).all id) = cs.all id := hall
        rw [hall']
        cases cs.all id <;> rfl
      · intro i hi
        have hi' : i < n := by
          have := List.mem_range'.1 hi
          obtain ⟨j, hj, rfl⟩ := this
          have hsz : ([:n] : Std.Legacy.Range).size = n := by simp [Std.Legacy.Range.size]
          rw [hsz] at hj
          show 0 + 1 * j < n
          omega
        obtain ⟨k1, k2⟩ := key i hi'
        rw [Nat.add_mul, Nat.one_mul] at k2
        rw [part_eq he (ih e ke he) (X := xs.toArray) (Y := ys.toArray) (by simpa using k1) (by simp; omega) (by simp; omega) w]
        cases ((cs.drop (i * ke.length)).take ke.length).all id <;> rfl
    | @struct _ _ fs _ _ _ _ ht hz hs hf =>
      rw [ht] at hty; injection hty with hty; subst hty
      rw [Op.equalIn]
      simp only [wrapG, aggD, Sem.run_bind, und ht w, Result.andThen_ok]
      have hpr : (program).run E.P w = .ok E.P w := rfl
      rw [hpr]
      simp only [Result.andThen_ok, hs, Bool.false_eq_true, if_false, Sem.run_bind]
      rw [← Array.forIn_toList]
      have key : ∀ (fl : List Field) (o : Nat) (kk : List Kd), EqFs E d fl o kk → ∀ (cc : List Bool), KdL kk (xs.drop o) (ys.drop o) cc → o ≤ xs.length → o ≤ ys.length →
          (forIn fl ((none : Option Bool), ()) fun f _ => if f.name ≠ "_" then (do let a ← part f.type xs.toArray f.offset; let b ← part f.type ys.toArray f.offset; let c ← Op.equalIn d f.type a b; if (!c) = true then pure (ForInStep.done (some false, ())) else pure (ForInStep.yield (none, ()))) else pure (ForInStep.yield (none, ())) : Sem (Option Bool × Unit)).run E.P w = .ok (if cc.all id then (none, ()) else (some false, ())) w := by
        intro fl
        induction fl with
        | nil =>
          intro o kk h cc hc _ _
          cases h
          have : cc = [] := List.eq_nil_of_length_eq_zero hc.lc
          subst this; rfl
        | cons f r ihf =>
          intro o kk h cc hc ho1 ho2
          cases h with | @cons _ _ _ _ k1 k2 _ hof hn hfe hr hkk =>
          subst hof
          subst hkk
          obtain ⟨c1, c2⟩ := hc.app
          have l1 := hc.lx; have l2 := hc.ly; have l3 := hc.lc
          simp only [List.length_append, List.length_drop] at l1 l2 l3
          rw [List.forIn_cons, Sem.run_bind, if_pos hn]
          rw [part_eq hfe (ih f.type k1 hfe) (X := xs.toArray) (Y := ys.toArray) c1 (by simp; omega) (by simp; omega) w]
          have hsplit : cc.all id = ((cc.take k1.length).all id && (cc.drop k1.length).all id) := by rw [← List.all_append, List.take_append_drop]
          rw [hsplit]
          cases hb : (cc.take k1.length).all id
          · simp
          · simp only [Bool.not_true, Bool.false_eq_true, if_false, Sem.run_pure, Result.andThen_ok, Bool.true_and]
            refine ihf (f.offset + k1.length) k2 hr (cc.drop k1.length) (by rw [List.drop_drop] at c2; simpa [List.drop_drop] using c2) (by omega) (by omega)
      rw [key fs.toList 0 ks hf cs (by simpa using hk) (by omega) (by omega)]
      cases cs.all id <;> rfl
end
end Go.Proofs.Ytmgckodihnmjoaa
