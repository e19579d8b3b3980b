/-
  The logic's rules for regions that draw their order: what only yields is taken first; what makes or writes comes when it alone may. Conditions: none.
-/
import Derived.Test.YtmgckodihnmjoaaSy13
import Derived.OrdersHeld
set_option linter.unusedVariables false
set_option linter.unusedSimpArgs false
set_option maxRecDepth 20000
namespace Go.Proofs.Ytmgckodihnmjoaa
open Go.RowKit

theorem Same0.trans {w w1 w2 : World} (h : Same0 w w1) (k : Same0 w1 w2) : Same0 w w2 := fun x hx => by
  have h1 := h x hx
  have : x < w1.heap.size := by
    have e : w.heap[x]? = some w.heap[x] := Array.getElem?_eq_getElem hx
    rw [e] at h1
    exact (Array.getElem?_eq_some_iff.1 h1).1
  rw [k x this, h1]
/-- Whatever order is picked from here on; what g marks leaves all that was there as it is. -/
def wpAnyK (P : Program) (ops : Array Oper) (Q : Exit → Act → World → Prop) (g : Nat → Bool) : Nat → Array Bool → Act → World → Prop
  | 0, listed, a, w => Region.ready .any ops listed = [] ∧ Q .normal a w
  | n + 1, listed, a, w => (Region.ready .any ops listed = [] → Q .normal a w) ∧
      ∀ i ∈ Region.ready .any ops listed, wpOp P ops Q i (fun a' w' => (g i = true → Same0 w w') ∧ wpAnyK P ops Q g n (listed.setIfInBounds i true) a' w') a w
section
variable {P : Program} {ops : Array Oper} {Q Q' : Exit → Act → World → Prop} {g : Nat → Bool}
theorem wpAny_of_K : ∀ (n : Nat) (listed : Array Bool) (a : Act) (w : World), wpAnyK P ops Q g n listed a w → wpAny P .any ops Q n listed a w
  | 0, _, _, _, h => h
  | n + 1, _, _, _, h => ⟨h.1, fun i hi => wpOp_mono (fun a' w' h' => wpAny_of_K n _ a' w' h'.2) (h.2 i hi)⟩
theorem wpOp_monoQ {i : Nat} {K K' : Act → World → Prop} (hK : ∀ a w, K a w → K' a w) (hQ : ∀ e a w, Q e a w → Q' e a w) {a : Act} {w : World} (h : wpOp P ops Q i K a w) : wpOp P ops Q' i K' a w := by
  unfold wpOp at *
  split
  · rename_i ho; rw [ho] at h; exact hK _ _ h
  · rename_i o ho
    rw [ho] at h
    dsimp only at h
    split
    · rename_i hw
      rw [if_pos hw] at h
      rcases h with h | ⟨h1, a0, w0, q⟩
      · exact .inl (upon_mono hK hQ h)
      · exact .inr ⟨h1, a0, w0, hQ _ _ _ q⟩
    · rename_i hw
      rw [if_neg hw] at h
      exact hK _ _ h
theorem wpAnyK_mono (hQ : ∀ e a w, Q e a w → Q' e a w) : ∀ (n : Nat) (listed : Array Bool) (a : Act) (w : World), wpAnyK P ops Q g n listed a w → wpAnyK P ops Q' g n listed a w
  | 0, _, _, _, h => ⟨h.1, hQ _ _ _ h.2⟩
  | n + 1, _, _, _, h => ⟨fun e => hQ _ _ _ (h.1 e), fun i hi => wpOp_monoQ (fun a' w' ⟨h1, h2⟩ => ⟨h1, wpAnyK_mono hQ n _ a' w' h2⟩) hQ (h.2 i hi)⟩
/-- Who may come ahead of an operation leaves all as it is. -/
def freeG (ops : Array Oper) (listed : Array Bool) (i : Nat) (g : Nat → Bool) : Bool :=
  (List.range ops.size).all fun j => j == i || listed.getD j true || g j || match ops[j]? with
    | some oj => oj.after.any fun e => Region.binds .any e && e.on == i
    | none => true
theorem freeG_spec {listed : Array Bool} {i : Nat} (h : freeG ops listed i g = true) (j : Nat) (oj : Oper) (hj : ops[j]? = some oj) (hne : j ≠ i) (hun : listed.getD j true = false) (hno : ∀ e ∈ oj.after, Region.binds .any e = true → e.on ≠ i) : g j = true := by
  simp only [freeG, List.all_eq_true, List.mem_range] at h
  have h1 := h j (Array.getElem?_eq_some_iff.1 hj).1
  simp only [hj, Bool.or_eq_true, beq_iff_eq, hne, false_or, hun, Bool.false_eq_true] at h1
  rcases h1 with h1 | h1
  · exact h1
  · obtain ⟨e, he, hb⟩ := Array.any_eq_true'.1 h1
    simp only [Bool.and_eq_true, beq_iff_eq] at hb
    exact absurd hb.2 (hno e he hb.1)
theorem wpAnyK_first {ρ : Bool} {i : Nat} {oi : Oper} {v : Value} (hi : ops[i]? = some oi) (hsel : Region.noSelect ops = true) (hQ : ∀ c a w, ¬ Q (.panic c) a w) :
    ∀ (fuel : Nat) (listed : Array Bool) (a : Act) (w : World),
      (∀ j oj, ops[j]? = some oj → j ≠ i → listed.getD j true = false → (∀ e ∈ oj.after, Region.binds .any e = true → e.on ≠ i) → oi.apart ops oj = true ∧ (ρ = true → g j = true)) →
      i ∈ Region.ready .any ops listed → YieldsIf P ops (fun w' => ρ = true → Same0 w w') oi v a →
      wpAnyK P ops Q g fuel (listed.setIfInBounds i true) (a.put oi.dst v) w → wpAnyK P ops Q g (fuel + 1) listed a w := by
  intro fuel
  induction fuel with
  | zero =>
    intro listed a w _ hr hy H
    refine ⟨fun h => (by rw [h] at hr; cases hr), fun j hj => ?_⟩
    by_cases hji : j = i
    · subst hji; exact hy.wpOp hi (fun _ => .refl w) ⟨fun _ => .refl w, H⟩
    · have := ready_mono hj hji
      rw [H.1] at this
      cases this
  | succ fuel ih =>
    intro listed a w hfree hr hy H
    refine ⟨fun h => (by rw [h] at hr; cases hr), fun j hj => ?_⟩
    by_cases hji : j = i
    · subst hji; exact hy.wpOp hi (fun _ => .refl w) ⟨fun _ => .refl w, H⟩
    · have h1 := H.2 j (ready_mono hj hji)
      obtain ⟨hjun, oj, hoj, hall⟩ := mem_ready.1 hj
      have hnot : ∀ e ∈ oj.after, Region.binds .any e = true → e.on ≠ i := fun e he hb heq => by
        have h1 := hall e he hb
        have h0 := (mem_ready.1 hr).1
        rw [heq] at h1
        rcases Nat.lt_or_ge i listed.size with h' | h'
        · simp [h'] at h0 h1; rw [h0] at h1; cases h1
        · simp [Array.getElem?_eq_none h'] at h1
      obtain ⟨hap, hgj⟩ := hfree j oj hoj hji hjun hnot
      have h2 := wpOp_putIf hoj hap (fun cs b => Region.noSelect_spec hsel i oi cs b hi) (fun cs b => Region.noSelect_spec hsel j oj cs b hoj) (fun c a w hq => absurd hq (hQ c _ _)) hy h1
      refine wpOp_mono (fun a' w' ⟨hy', hs, hk⟩ => ⟨hs, ?_⟩) h2
      refine ih (listed.setIfInBounds j true) a' w' ?_ (ready_mono hr (Ne.symm hji)) ?_ ?_
      · intro k ok hk hki hun hno
        refine hfree k ok hk hki ?_ hno
        by_cases hjk : j = k
        · subst hjk; exact hjun
        · rw [getD_set_ne true hjk] at hun; exact hun
      · rcases hy' with ⟨y1, y2⟩ | y
        · exact .inl ⟨y1, fun w2 h2 => y2 w2 (fun hρ => (hs (hgj hρ)).trans (h2 hρ))⟩
        · exact .inr y
      · rw [Array.setIfInBounds_comm _ _ hji]; exact hk
end

section
variable {E : Env} {k B : Nat} {s s' : Slots} {h h' : Hp} {Q Q' : Post} {U : Nat → Prop} {m : Nat → Option Nat} {a : Act} {w w' : World} {o : Oper} {v : V} {d : Nat} {ops : Array Oper} {g : Nat → Bool} {listed : Array Bool} {n : Nat}
def NoPanic (Q : Post) : Prop := ∀ c s h, ¬ Q (.panic c) s h
theorem Fin.noPanic {rs : List Nat} {R : V → Hp → Prop} : NoPanic (Fin rs R) := fun c s h q => by
  obtain ⟨e, _⟩ := q
  rcases e with e | e <;> cases e
/-- A region's rest, in whatever order. -/
def TA (E : Env) (k B : Nat) (ops : Array Oper) (g : Nat → Bool) (n : Nat) (listed : Array Bool) (s : Slots) (h : Hp) (Q : Post) : Prop :=
  ∀ U m a w, SR k B U m s h a w → wpAnyK E.P ops (RP k B U m h w Q) g n listed a w
theorem RP.noPanic (hP : NoPanic Q) (c : List PanicEntry) (a' : Act) (w' : World) : ¬ RP k B U m h w Q (.panic c) a' w' := by
  rintro ⟨_, _, s', h', q, _⟩; exact hP c s' h' q
theorem SR.drew (r : SR k B U m s h a w) : SR k B U m s h a { w with drawn := w.drawn + 1 } ∧ Stp B U m h.n h.b w U m h.n h.b { w with drawn := w.drawn + 1 } := by
  have st : Stp h.n U m h.n h.b w U m h.n h.b { w with drawn := w.drawn + 1 } :=
    ⟨Nat.le_refl _, fun _ _ => rfl, fun _ h => h, Nat.le_refl _, rfl, rfl, rfl, fun _ _ _ => rfl, fun _ _ h => h, fun _ _ h => .inl h, fun _ _ h => h⟩
  refine ⟨r.stp st ⟨fun id bk h1 => ?_, r.heap.ok, r.heap.inj, r.heap.ulow⟩, st.low r.base⟩
  obtain ⟨g1, g2⟩ := r.heap.live id bk h1
  exact ⟨g1, BR.mono (w := w) (w' := { w with drawn := w.drawn + 1 }) (fun _ h => h) (fun _ _ => rfl) (fun _ _ h => h) (Nat.le_refl _) (fun _ _ => rfl) (fun _ _ => rfl) g2⟩
theorem T.of_draw {id : Nat} {l : List Oper} (g : Nat → Bool) (t : TA E k B l.toArray g l.toArray.size (Array.replicate l.toArray.size false) s h Q) : T E k B (.region id l.toArray true) s h Q := fun U m a w r => by
  obtain ⟨r1, st⟩ := r.drew
  exact wp_region_any E.mixed (wpAny_of_K _ _ _ _ (wpAnyK_mono (fun e a2 w2 q => RP_trans st q) _ _ _ _ (t U m a _ r1)))
theorem wanted_none {P : Nat → Option Bool} (hg : o.guard = none) : Region.wanted o P = true := by simp [Region.wanted, hg]
/-- What an operation's guard tells. -/
def Wants (s : Slots) (ops : Array Oper) (o : Oper) (b : Bool) : Prop := (o.guard = none ∧ b = true) ∨ ∃ j want dj c, o.guard = some (j, want) ∧ yieldSlot ops j = some dj ∧ lk s dj = some (vb c) ∧ b = (c == want)
theorem Wants.none (hg : o.guard = none) : Wants s ops o true := .inl ⟨hg, rfl⟩
theorem Wants.open {j dj : Nat} {want c : Bool} (hg : o.guard = some (j, want)) (hj : yieldSlot ops j = some dj) (hb : lk s dj = some (vb c)) (hw : c = want) : Wants s ops o true := .inr ⟨j, want, dj, c, hg, hj, hb, by subst hw; simp⟩
theorem Wants.shut {j dj : Nat} {want c : Bool} (hg : o.guard = some (j, want)) (hj : yieldSlot ops j = some dj) (hb : lk s dj = some (vb c)) (hw : c = !want) : Wants s ops o false := .inr ⟨j, want, dj, c, hg, hj, hb, by subst hw; cases want <;> rfl⟩
theorem SR.wants (r : SR k B U m s h a w) {b : Bool} (hw : Wants s ops o b) : Region.wanted o (Go.yielded ops a.tmps) = b := by
  rcases hw with ⟨h1, rfl⟩ | ⟨j, want, dj, c, h1, h2, h3, rfl⟩
  · exact wanted_none h1
  · have := r.yielded h2 h3
    simp only [Region.wanted, h1, this]
    cases c <;> cases want <;> rfl
theorem exec_guard (ρ : Operand → Value) (gg : Option (Nat × Bool)) : execOp ρ { o with guard := gg } = execOp ρ o := rfl
/-- An operation that only yields is taken first. -/
theorem TA.take {ρ : Bool} (i : Nat) (hi : ops[i]? = some o) (y : Yl ρ E k B s h { o with guard := none } v) (hw : Wants s ops o true) (hd : o.dst = some d) (hk : Nat.blt d k = true) (hP : NoPanic Q) (hsel : Region.noSelect ops = true) (hf : Region.free .any ops listed i = true)
    (hr : (Region.ready .any ops listed).contains i = true) (hg : (!ρ || freeG ops listed i g) = true) (t : TA E k B ops g n (listed.setIfInBounds i true) ((d, v) :: s) h Q) : TA E k B ops g (n + 1) listed s h Q := fun U m a w r => by
  obtain ⟨x, h1, h2⟩ := y U m a w r
  refine wpAnyK_first (ρ := ρ) (v := x) hi hsel (RP.noPanic hP) n listed a w (fun j oj hj hne hun hno => ⟨Region.free_spec hi hf j oj hj hne hun hno, fun hρ => ?_⟩) (by simpa using hr) (.inl ⟨r.wants hw, h2⟩) ?_
  · subst hρ
    exact freeG_spec (by simpa using hg) j oj hj hne hun hno
  · rw [hd]; exact t U m _ w (r.put hk h1)
/-- One whose guard is shut. -/
theorem TA.shut (i : Nat) (hi : ops[i]? = some o) (hw : Wants s ops o false) (hd : o.dst = some d) (hk : Nat.blt d k = true) (hP : NoPanic Q) (hsel : Region.noSelect ops = true) (hf : Region.free .any ops listed i = true)
    (hr : (Region.ready .any ops listed).contains i = true) (t : TA E k B ops g n (listed.setIfInBounds i true) ((d, .un) :: s) h Q) : TA E k B ops g (n + 1) listed s h Q := fun U m a w r => by
  refine wpAnyK_first (ρ := false) (v := undef) hi hsel (RP.noPanic hP) n listed a w (fun j oj hj hne hun hno => ⟨Region.free_spec hi hf j oj hj hne hun hno, fun hρ => by cases hρ⟩) (by simpa using hr) (.inr ⟨r.wants hw, rfl⟩) ?_
  rw [hd]; exact t U m _ w (r.put hk (.un _))
theorem TA.split {j dj : Nat} {want b : Bool} (i : Nat) (hi : ops[i]? = some o) (hg : o.guard = some (j, want)) (hj : yieldSlot ops j = some dj) (hb : lk s dj = some (vb b)) (ht : b = want → TA E k B ops g n listed s h Q) (hf : b = (!want) → TA E k B ops g n listed s h Q) : TA E k B ops g n listed s h Q := by
  by_cases hw : b = want
  · exact ht hw
  · exact hf (by cases b <;> cases want <;> simp_all)
/-- The one operation that may come. -/
theorem TA.ac {gg : Bool} (i : Nat) (hi : ops[i]? = some o) (y : Ac E k B gg s h { o with guard := none } s' h') (hw : Wants s ops o true) (hr : Region.ready .any ops listed = [i]) (hg : (!g i || gg) = true)
    (t : TA E k B ops g n (listed.setIfInBounds i true) s' h' Q) : TA E k B ops g (n + 1) listed s h Q := fun U m a w r => by
  obtain ⟨nx, a', w', U', m', h1, h2, h3, h4, h5⟩ := y U m a w r
  refine ⟨(fun e => by rw [hr] at e; cases e), fun j hj => ?_⟩
  rw [hr] at hj
  simp only [List.mem_singleton] at hj
  subst hj
  unfold wpOp
  simp only [hi, r.wants hw, if_true]
  refine .inl ?_
  unfold Oper.wp
  rw [exec_guard] at h1
  rw [h1]
  have h2' : Nxt o a nx a' := h2
  refine h2'.upon _ _ ⟨fun e => h5 (by simpa [e] using hg), wpAnyK_mono (fun e a2 w2 q => RP_trans h4 q) _ _ _ _ (t U' m' a' w' h3)⟩
theorem TA.acShut (i : Nat) (hi : ops[i]? = some o) (hw : Wants s ops o false) (hd : o.dst = none) (hr : Region.ready .any ops listed = [i]) (t : TA E k B ops g n (listed.setIfInBounds i true) s h Q) : TA E k B ops g (n + 1) listed s h Q := fun U m a w r => by
  refine ⟨(fun e => by rw [hr] at e; cases e), fun j hj => ?_⟩
  rw [hr] at hj
  simp only [List.mem_singleton] at hj
  subst hj
  unfold wpOp
  simp only [hi, r.wants hw]
  rw [if_neg (by simp), hd]
  exact ⟨fun _ => .refl w, t U m a w r⟩
/-- A call of a pure function, the one operation that may come. -/
theorem TA.fn {f : FuncId} {xs : Array Operand} {ats : Array TypeId} {args vs : List V} {rv : V} (i : Nat) (hi : ops[i]? = some o) (ho : o.op = .call { callee := .value (.func f), args := xs, argTypes := ats })
    (c : Fn E f args rv) (he : Enters E f) (hv : evL s xs.toList = some vs) (ha : AL vs args) (hw : Wants s ops o true) (hk : dstOk o.dst k = true) (hr : Region.ready .any ops listed = [i])
    (t : TA E k B ops g n (listed.setIfInBounds i true) (putR o.dst rv s) h Q) : TA E k B ops g (n + 1) listed s h Q := fun U m a w r => by
  obtain ⟨as, h1, h2⟩ := call_run r ho he hv ha
  refine ⟨(fun e => by rw [hr] at e; cases e), fun j hj => ?_⟩
  rw [hr] at hj
  simp only [List.mem_singleton] at hj
  subst hj
  unfold wpOp
  simp only [hi, r.wants hw, if_true]
  refine .inl ?_
  unfold Oper.wp
  rw [h1, Oper.upon_enter]
  refine (c.calls r.heap h2).mono fun e w' ⟨R0, U', e1, hvr, st, hH, hs⟩ => ?_
  subst e1
  have r1 := r.stp st hH
  exact ⟨fun _ => hs, wpAnyK_mono (fun e a2 w2 q => RP_trans (st.low r.base) q) _ _ _ _ (t U' m _ w' (r1.putR hk hvr))⟩
/-- Any call, the one operation that may come. -/
theorem TA.call {f : FuncId} {xs : Array Operand} {ats : Array TypeId} {args vs : List V} {R : V → Hp → Prop} (i : Nat) (hi : ops[i]? = some o) (ho : o.op = .call { callee := .value (.func f), args := xs, argTypes := ats })
    (c : Call E f args h R) (he : Enters E f) (hv : evL s xs.toList = some vs) (ha : AL vs args) (hw : Wants s ops o true) (hk : dstOk o.dst k = true) (hr : Region.ready .any ops listed = [i]) (hg : g i = false)
    (t : ∀ r h', R r h' → TA E k B ops g n (listed.setIfInBounds i true) (putR o.dst r s) h' Q) : TA E k B ops g (n + 1) listed s h Q := fun U m a w r => by
  obtain ⟨as, h1, h2⟩ := call_run r ho he hv ha
  refine ⟨(fun e => by rw [hr] at e; cases e), fun j hj => ?_⟩
  rw [hr] at hj
  simp only [List.mem_singleton] at hj
  subst hj
  unfold wpOp
  simp only [hi, r.wants hw, if_true]
  refine .inl ?_
  unfold Oper.wp
  rw [h1, Oper.upon_enter]
  refine (c U m w as r.heap h2).mono fun e w' ⟨rv, R0, U', m', h', e1, q, hvr, hH, st⟩ => ?_
  subst e1
  have r1 := r.stp st hH
  exact ⟨(fun e => by rw [hg] at e; cases e), wpAnyK_mono (fun e a2 w2 q => RP_trans (st.low r.base) q) _ _ _ _ (t rv h' q U' m' _ w' (r1.putR hk hvr))⟩
theorem TA.done (hr : Region.ready .any ops listed = []) (q : Q .normal s h) : TA E k B ops g n listed s h Q := fun U m a w r => by
  cases n with
  | zero => exact ⟨hr, U, m, s, h, q, r, .refl ..⟩
  | succ n => exact ⟨fun _ => ⟨U, m, s, h, q, r, .refl ..⟩, fun i hi => by rw [hr] at hi; cases hi⟩
end
end Go.Proofs.Ytmgckodihnmjoaa
