/-
  The logic: more rules; the reckoner: values. Conditions: none.
-/
import Derived.Test.YthkoinngmcpjgaaKA
import Derived.OrdersHeld
import Derived.OpenShut
import Derived.Deep.Slices
import Derived.ChangeShapes
import Derived.WideShapes
/-
  The logic's rules for rows of a kind: lists as they are read and grown. Conditions: none.
-/
set_option linter.unusedVariables false
set_option linter.unusedSimpArgs false
set_option maxRecDepth 20000
namespace Go.Proofs.Ythkoinngmcpjgaa
open Go.RowKit

theorem map_at {α : Type} [Inhabited α] (f : α → D) (l : List α) (k : Nat) (hk : k < l.length) : ((l.map f).drop (k * 1)).take 1 = [f l[k]!] := by
  rw [Nat.mul_one, ← List.map_drop, List.drop_eq_getElem_cons hk, getElem!_pos l k hk]; rfl
theorem flat_drop {α : Type} (enc : α → List D) (e : Nat) (he : ∀ a, (enc a).length = e) : ∀ (l : List α) (k : Nat), k ≤ l.length → (l.flatMap enc).drop (k * e) = (l.drop k).flatMap enc
  | l, 0, _ => by simp
  | [], k + 1, h => by simp at h
  | x :: l, k + 1, h => by
    simp only [List.length_cons, Nat.add_le_add_iff_right] at h
    rw [List.flatMap_cons, Nat.add_mul, Nat.one_mul, Nat.add_comm (k * e) e, List.drop_append, he x]
    simp only [List.drop_succ_cons]
    rw [List.drop_eq_nil_of_le (by rw [he x]; omega), List.nil_append, show e + k * e - e = k * e by omega]
    exact flat_drop enc e he l k h
theorem flat_at {α : Type} [Inhabited α] (enc : α → List D) (e : Nat) (he : ∀ a, (enc a).length = e) (l : List α) (k : Nat) (hk : k < l.length) : ((l.flatMap enc).drop (k * e)).take e = enc l[k]! := by
  rw [flat_drop enc e he l k (by omega), List.drop_eq_getElem_cons hk, List.flatMap_cons, getElem!_pos l k hk, List.take_append, he, Nat.sub_self, List.take_zero, List.append_nil, List.take_of_length_le (by rw [he]; omega)]
theorem flat_len {α : Type} (enc : α → List D) (e : Nat) (he : ∀ a, (enc a).length = e) (l : List α) : (l.flatMap enc).length = l.length * e := by
  induction l with
  | nil => simp
  | cons x l ih => rw [List.flatMap_cons, List.length_append, ih, he, List.length_cons, Nat.add_mul, Nat.one_mul, Nat.add_comm]

section
variable {E : Env} {k B : Nat} {s s' : Slots} {h h' : Hp} {Q Q' : Post} {o : Oper} {v : V} {d : Nat} {t : TypeId} {td ed : TypeDesc} {tz tb ez eb : Nat} {tr er : Option Value} {x y : Operand} {n j : Nat} {ρ : Bool}
/-- An element of a row of single cells. -/
theorem Yl.indexM {α : Type} [Inhabited α] {f : α → D} {l : List α} {e : TypeId} (ho : o.op = .indexAddr t x y) (hx : evO s x = some (.d (.lst n (l.map f)))) (hy : evO s y = some (vi ((j : Nat) : Int))) (ht : lk E.tab t = some ⟨td, tz, tb, tr⟩) (hd : td = .slice e) (hte : lk E.tab e = some ⟨ed, 1, eb, er⟩) (hn : n = l.length) (hj : j < l.length) :
    Yl ρ E k B s h o (.d (.lptr [f l[j]!])) :=
  Yl.indexL ho ht hd hte hx hy (by omega) (by omega) (by rw [Int.toNat_natCast]; exact map_at f l j hj) (by simp)
/-- An element of a row of structs. -/
theorem Yl.indexF {α : Type} [Inhabited α] {enc : α → List D} {l : List α} {e : TypeId} (ho : o.op = .indexAddr t x y) (hx : evO s x = some (.d (.lst n (l.flatMap enc)))) (hy : evO s y = some (vi ((j : Nat) : Int))) (ht : lk E.tab t = some ⟨td, tz, tb, tr⟩) (hd : td = .slice e) (hte : lk E.tab e = some ⟨ed, ez, eb, er⟩) (he : ∀ a, (enc a).length = ez) (hp : Nat.blt 0 ez = true) (hn : n = l.length) (hj : j < l.length) :
    Yl ρ E k B s h o (.d (.lptr (enc l[j]!))) :=
  Yl.indexL ho ht hd hte hx hy (by omega) (by omega) (by rw [Int.toNat_natCast]; exact flat_at enc ez he l j hj) (by rw [he]; exact Nat.le_of_ble_eq_true hp)
end
theorem Le.val {s s' : Slots} {i : Nat} {u v : V} (h : lk s i = some u) (e : u = v) (k : Le s s') : Le s ((i, v) :: s') := by subst e; exact Le.cons h k
abbrev li (l : List Int) : V := .d (.lst l.length (l.map (.int .i64)))
end Go.Proofs.Ythkoinngmcpjgaa

/-
  The logic's rules for regions that draw their order: what only yields is taken first; what makes or writes comes when it alone may. Conditions: none.
-/
namespace Go.Proofs.Ythkoinngmcpjgaa
open Go.RowKit

theorem Same0.trans {w w1 w2 : World} (h : Same0 w w1) (k : Same0 w1 w2) : Same0 w w2 := fun x hx => by
  have h1 := h x hx
  have : x < w1.heap.size := by
    have e : w.heap[x]? = some w.heap[x] := Array.getElem?_eq_getElem hx
    rw [e] at h1
    exact (Array.getElem?_eq_some_iff.1 h1).1
  rw [k x this, h1]
/-- Whatever order is picked from here on; what g marks leaves all that was there as it is. -/
def wpAnyK (P : Program) (ops : Array Oper) (Q : Exit → Act → World → Prop) (g : Nat → Bool) : Nat → Array Bool → Act → World → Prop
  | 0, listed, a, w => Region.ready .any ops listed = [] ∧ Q .normal a w
  | n + 1, listed, a, w => (Region.ready .any ops listed = [] → Q .normal a w) ∧
      ∀ i ∈ Region.ready .any ops listed, wpOp P ops Q i (fun a' w' => (g i = true → Same0 w w') ∧ wpAnyK P ops Q g n (listed.setIfInBounds i true) a' w') a w
section
variable {P : Program} {ops : Array Oper} {Q Q' : Exit → Act → World → Prop} {g : Nat → Bool}
theorem wpAny_of_K : ∀ (n : Nat) (listed : Array Bool) (a : Act) (w : World), wpAnyK P ops Q g n listed a w → wpAny P .any ops Q n listed a w
  | 0, _, _, _, h => h
  | n + 1, _, _, _, h => ⟨h.1, fun i hi => wpOp_mono (fun a' w' h' => wpAny_of_K n _ a' w' h'.2) (h.2 i hi)⟩
theorem wpOp_monoQ {i : Nat} {K K' : Act → World → Prop} (hK : ∀ a w, K a w → K' a w) (hQ : ∀ e a w, Q e a w → Q' e a w) {a : Act} {w : World} (h : wpOp P ops Q i K a w) : wpOp P ops Q' i K' a w := by
  unfold wpOp at *
  split
  · rename_i ho; rw [ho] at h; exact hK _ _ h
  · rename_i o ho
    rw [ho] at h
    dsimp only at h
    split
    · rename_i hw
      rw [if_pos hw] at h
      rcases h with h | ⟨h1, a0, w0, q⟩
      · exact .inl (upon_mono hK hQ h)
      · exact .inr ⟨h1, a0, w0, hQ _ _ _ q⟩
    · rename_i hw
      rw [if_neg hw] at h
      exact hK _ _ h
theorem wpAnyK_mono (hQ : ∀ e a w, Q e a w → Q' e a w) : ∀ (n : Nat) (listed : Array Bool) (a : Act) (w : World), wpAnyK P ops Q g n listed a w → wpAnyK P ops Q' g n listed a w
  | 0, _, _, _, h => ⟨h.1, hQ _ _ _ h.2⟩
  | n + 1, _, _, _, h => ⟨fun e => hQ _ _ _ (h.1 e), fun i hi => wpOp_monoQ (fun a' w' ⟨h1, h2⟩ => ⟨h1, wpAnyK_mono hQ n _ a' w' h2⟩) hQ (h.2 i hi)⟩
/-- Who may come ahead of an operation leaves all as it is. -/
def freeG (ops : Array Oper) (listed : Array Bool) (i : Nat) (g : Nat → Bool) : Bool :=
  (List.range ops.size).all fun j => j == i || listed.getD j true || g j || match ops[j]? with
    | some oj => oj.after.any fun e => Region.binds .any e && e.on == i
    | none => true
theorem freeG_spec {listed : Array Bool} {i : Nat} (h : freeG ops listed i g = true) (j : Nat) (oj : Oper) (hj : ops[j]? = some oj) (hne : j ≠ i) (hun : listed.getD j true = false) (hno : ∀ e ∈ oj.after, Region.binds .any e = true → e.on ≠ i) : g j = true := by
  simp only [freeG, List.all_eq_true, List.mem_range] at h
  have h1 := h j (Array.getElem?_eq_some_iff.1 hj).1
  simp only [hj, Bool.or_eq_true, beq_iff_eq, hne, false_or, hun, Bool.false_eq_true] at h1
  rcases h1 with h1 | h1
  · exact h1
  · obtain ⟨e, he, hb⟩ := Array.any_eq_true'.1 h1
    simp only [Bool.and_eq_true, beq_iff_eq] at hb
    exact absurd hb.2 (hno e he hb.1)
theorem wpAnyK_first {ρ : Bool} {i : Nat} {oi : Oper} {v : Value} (hi : ops[i]? = some oi) (hsel : Region.noSelect ops = true) (hQ : ∀ c a w, ¬ Q (.panic c) a w) :
    ∀ (fuel : Nat) (listed : Array Bool) (a : Act) (w : World),
      (∀ j oj, ops[j]? = some oj → j ≠ i → listed.getD j true = false → (∀ e ∈ oj.after, Region.binds .any e = true → e.on ≠ i) → oi.apart ops oj = true ∧ (ρ = true → g j = true)) →
      i ∈ Region.ready .any ops listed → YieldsIf P ops (fun w' => ρ = true → Same0 w w') oi v a →
      wpAnyK P ops Q g fuel (listed.setIfInBounds i true) (a.put oi.dst v) w → wpAnyK P ops Q g (fuel + 1) listed a w := by
  intro fuel
  induction fuel with
  | zero =>
    intro listed a w _ hr hy H
    refine ⟨fun h => (by rw [h] at hr; cases hr), fun j hj => ?_⟩
    by_cases hji : j = i
    · subst hji; exact hy.wpOp hi (fun _ => .refl w) ⟨fun _ => .refl w, H⟩
    · have := ready_mono hj hji
      rw [H.1] at this
      cases this
  | succ fuel ih =>
    intro listed a w hfree hr hy H
    refine ⟨fun h => (by rw [h] at hr; cases hr), fun j hj => ?_⟩
    by_cases hji : j = i
    · subst hji; exact hy.wpOp hi (fun _ => .refl w) ⟨fun _ => .refl w, H⟩
    · have h1 := H.2 j (ready_mono hj hji)
      obtain ⟨hjun, oj, hoj, hall⟩ := mem_ready.1 hj
      have hnot : ∀ e ∈ oj.after, Region.binds .any e = true → e.on ≠ i := fun e he hb heq => by
        have h1 := hall e he hb
        have h0 := (mem_ready.1 hr).1
        rw [heq] at h1
        rcases Nat.lt_or_ge i listed.size with h' | h'
        · simp [h'] at h0 h1; rw [h0] at h1; cases h1
        · simp [Array.getElem?_eq_none h'] at h1
      obtain ⟨hap, hgj⟩ := hfree j oj hoj hji hjun hnot
      have h2 := wpOp_putIf hoj hap (fun cs b => Region.noSelect_spec hsel i oi cs b hi) (fun cs b => Region.noSelect_spec hsel j oj cs b hoj) (fun c a w hq => absurd hq (hQ c _ _)) hy h1
      refine wpOp_mono (fun a' w' ⟨hy', hs, hk⟩ => ⟨hs, ?_⟩) h2
      refine ih (listed.setIfInBounds j true) a' w' ?_ (ready_mono hr (Ne.symm hji)) ?_ ?_
      · intro k ok hk hki hun hno
        refine hfree k ok hk hki ?_ hno
        by_cases hjk : j = k
        · subst hjk; exact hjun
        · rw [getD_set_ne true hjk] at hun; exact hun
      · rcases hy' with ⟨y1, y2⟩ | y
        · exact .inl ⟨y1, fun w2 h2 => y2 w2 (fun hρ => (hs (hgj hρ)).trans (h2 hρ))⟩
        · exact .inr y
      · rw [Array.setIfInBounds_comm _ _ hji]; exact hk
end

section
variable {E : Env} {k B : Nat} {s s' : Slots} {h h' : Hp} {Q Q' : Post} {U : Nat → Prop} {m : Nat → Option Nat} {a : Act} {w w' : World} {o : Oper} {v : V} {d : Nat} {ops : Array Oper} {g : Nat → Bool} {listed : Array Bool} {n : Nat}
def NoPanic (Q : Post) : Prop := ∀ c s h, ¬ Q (.panic c) s h
theorem Fin.noPanic {rs : List Nat} {R : V → Hp → Prop} : NoPanic (Fin rs R) := fun c s h q => by
  obtain ⟨e, _⟩ := q
  rcases e with e | e <;> cases e
/-- A region's rest, in whatever order. -/
def TA (E : Env) (k B : Nat) (ops : Array Oper) (g : Nat → Bool) (n : Nat) (listed : Array Bool) (s : Slots) (h : Hp) (Q : Post) : Prop :=
  ∀ U m a w, SR k B U m s h a w → wpAnyK E.P ops (RP k B U m h w Q) g n listed a w
theorem RP.noPanic (hP : NoPanic Q) (c : List PanicEntry) (a' : Act) (w' : World) : ¬ RP k B U m h w Q (.panic c) a' w' := by
  rintro ⟨_, _, s', h', q, _⟩; exact hP c s' h' q
theorem SR.drew (r : SR k B U m s h a w) : SR k B U m s h a { w with drawn := w.drawn + 1 } ∧ Stp B U m h.n h.b w U m h.n h.b { w with drawn := w.drawn + 1 } := by
  have st : Stp h.n U m h.n h.b w U m h.n h.b { w with drawn := w.drawn + 1 } :=
    ⟨Nat.le_refl _, fun _ _ => rfl, fun _ h => h, Nat.le_refl _, rfl, rfl, rfl, fun _ _ _ => rfl, fun _ _ h => h, fun _ _ h => .inl h, fun _ _ h => h⟩
  refine ⟨r.stp st ⟨fun id bk h1 => ?_, r.heap.ok, r.heap.inj, r.heap.ulow⟩, st.low r.base⟩
  obtain ⟨g1, g2⟩ := r.heap.live id bk h1
  exact ⟨g1, BR.mono (w := w) (w' := { w with drawn := w.drawn + 1 }) (fun _ h => h) (fun _ _ => rfl) (fun _ _ h => h) (Nat.le_refl _) (fun _ _ => rfl) (fun _ _ => rfl) g2⟩
theorem T.of_draw {id : Nat} {l : List Oper} (g : Nat → Bool) (t : TA E k B l.toArray g l.toArray.size (Array.replicate l.toArray.size false) s h Q) : T E k B (.region id l.toArray true) s h Q := fun U m a w r => by
  obtain ⟨r1, st⟩ := r.drew
  exact wp_region_any E.mixed (wpAny_of_K _ _ _ _ (wpAnyK_mono (fun e a2 w2 q => RP_trans st q) _ _ _ _ (t U m a _ r1)))
theorem wanted_none {P : Nat → Option Bool} (hg : o.guard = none) : Region.wanted o P = true := by simp [Region.wanted, hg]
/-- What an operation's guard tells. -/
def Wants (s : Slots) (ops : Array Oper) (o : Oper) (b : Bool) : Prop := (o.guard = none ∧ b = true) ∨ ∃ j want dj c, o.guard = some (j, want) ∧ yieldSlot ops j = some dj ∧ lk s dj = some (vb c) ∧ b = (c == want)
theorem Wants.none (hg : o.guard = none) : Wants s ops o true := .inl ⟨hg, rfl⟩
theorem Wants.open {j dj : Nat} {want c : Bool} (hg : o.guard = some (j, want)) (hj : yieldSlot ops j = some dj) (hb : lk s dj = some (vb c)) (hw : c = want) : Wants s ops o true := .inr ⟨j, want, dj, c, hg, hj, hb, by subst hw; simp⟩
theorem Wants.shut {j dj : Nat} {want c : Bool} (hg : o.guard = some (j, want)) (hj : yieldSlot ops j = some dj) (hb : lk s dj = some (vb c)) (hw : c = !want) : Wants s ops o false := .inr ⟨j, want, dj, c, hg, hj, hb, by subst hw; cases want <;> rfl⟩
theorem SR.wants (r : SR k B U m s h a w) {b : Bool} (hw : Wants s ops o b) : Region.wanted o (Go.yielded ops a.tmps) = b := by
  rcases hw with ⟨h1, rfl⟩ | ⟨j, want, dj, c, h1, h2, h3, rfl⟩
  · exact wanted_none h1
  · have := r.yielded h2 h3
    simp only [Region.wanted, h1, this]
    cases c <;> cases want <;> rfl
theorem exec_guard (ρ : Operand → Value) (gg : Option (Nat × Bool)) : execOp ρ { o with guard := gg } = execOp ρ o := rfl
/-- An operation that only yields is taken first. -/
theorem TA.take {ρ : Bool} (i : Nat) (hi : ops[i]? = some o) (y : Yl ρ E k B s h { o with guard := none } v) (hw : Wants s ops o true) (hd : o.dst = some d) (hk : Nat.blt d k = true) (hP : NoPanic Q) (hsel : Region.noSelect ops = true) (hf : Region.free .any ops listed i = true)
    (hr : (Region.ready .any ops listed).contains i = true) (hg : (!ρ || freeG ops listed i g) = true) (t : TA E k B ops g n (listed.setIfInBounds i true) ((d, v) :: s) h Q) : TA E k B ops g (n + 1) listed s h Q := fun U m a w r => by
  obtain ⟨x, h1, h2⟩ := y U m a w r
  refine wpAnyK_first (ρ := ρ) (v := x) hi hsel (RP.noPanic hP) n listed a w (fun j oj hj hne hun hno => ⟨Region.free_spec hi hf j oj hj hne hun hno, fun hρ => ?_⟩) (by simpa using hr) (.inl ⟨r.wants hw, h2⟩) ?_
  · subst hρ
    exact freeG_spec (by simpa using hg) j oj hj hne hun hno
  · rw [hd]; exact t U m _ w (r.put hk h1)
/-- One whose guard is shut. -/
theorem TA.shut (i : Nat) (hi : ops[i]? = some o) (hw : Wants s ops o false) (hd : o.dst = some d) (hk : Nat.blt d k = true) (hP : NoPanic Q) (hsel : Region.noSelect ops = true) (hf : Region.free .any ops listed i = true)
    (hr : (Region.ready .any ops listed).contains i = true) (t : TA E k B ops g n (listed.setIfInBounds i true) ((d, .un) :: s) h Q) : TA E k B ops g (n + 1) listed s h Q := fun U m a w r => by
  refine wpAnyK_first (ρ := false) (v := undef) hi hsel (RP.noPanic hP) n listed a w (fun j oj hj hne hun hno => ⟨Region.free_spec hi hf j oj hj hne hun hno, fun hρ => by cases hρ⟩) (by simpa using hr) (.inr ⟨r.wants hw, rfl⟩) ?_
  rw [hd]; exact t U m _ w (r.put hk (.un _))
theorem TA.split {j dj : Nat} {want b : Bool} (i : Nat) (hi : ops[i]? = some o) (hg : o.guard = some (j, want)) (hj : yieldSlot ops j = some dj) (hb : lk s dj = some (vb b)) (ht : b = want → TA E k B ops g n listed s h Q) (hf : b = (!want) → TA E k B ops g n listed s h Q) : TA E k B ops g n listed s h Q := by
  by_cases hw : b = want
  · exact ht hw
  · exact hf (by cases b <;> cases want <;> simp_all)
/-- The one operation that may come. -/
theorem TA.ac {gg : Bool} (i : Nat) (hi : ops[i]? = some o) (y : Ac E k B gg s h { o with guard := none } s' h') (hw : Wants s ops o true) (hr : Region.ready .any ops listed = [i]) (hg : (!g i || gg) = true)
    (t : TA E k B ops g n (listed.setIfInBounds i true) s' h' Q) : TA E k B ops g (n + 1) listed s h Q := fun U m a w r => by
  obtain ⟨nx, a', w', U', m', h1, h2, h3, h4, h5⟩ := y U m a w r
  refine ⟨(fun e => by rw [hr] at e; cases e), fun j hj => ?_⟩
  rw [hr] at hj
  simp only [List.mem_singleton] at hj
  subst hj
  unfold wpOp
  simp only [hi, r.wants hw, if_true]
  refine .inl ?_
  unfold Oper.wp
  rw [exec_guard] at h1
  rw [h1]
  have h2' : Nxt o a nx a' := h2
  refine h2'.upon _ _ ⟨fun e => h5 (by simpa [e] using hg), wpAnyK_mono (fun e a2 w2 q => RP_trans h4 q) _ _ _ _ (t U' m' a' w' h3)⟩
theorem TA.acShut (i : Nat) (hi : ops[i]? = some o) (hw : Wants s ops o false) (hd : o.dst = none) (hr : Region.ready .any ops listed = [i]) (t : TA E k B ops g n (listed.setIfInBounds i true) s h Q) : TA E k B ops g (n + 1) listed s h Q := fun U m a w r => by
  refine ⟨(fun e => by rw [hr] at e; cases e), fun j hj => ?_⟩
  rw [hr] at hj
  simp only [List.mem_singleton] at hj
  subst hj
  unfold wpOp
  simp only [hi, r.wants hw]
  rw [if_neg (by simp), hd]
  exact ⟨fun _ => .refl w, t U m a w r⟩
/-- A call of a pure function, the one operation that may come. -/
theorem TA.fn {f : FuncId} {xs : Array Operand} {ats : Array TypeId} {args vs : List V} {rv : V} (i : Nat) (hi : ops[i]? = some o) (ho : o.op = .call { callee := .value (.func f), args := xs, argTypes := ats })
    (c : Fn E f args rv) (he : Enters E f) (hv : evL s xs.toList = some vs) (ha : AL vs args) (hw : Wants s ops o true) (hk : dstOk o.dst k = true) (hr : Region.ready .any ops listed = [i])
    (t : TA E k B ops g n (listed.setIfInBounds i true) (putR o.dst rv s) h Q) : TA E k B ops g (n + 1) listed s h Q := fun U m a w r => by
  obtain ⟨as, h1, h2⟩ := call_run r ho he hv ha
  refine ⟨(fun e => by rw [hr] at e; cases e), fun j hj => ?_⟩
  rw [hr] at hj
  simp only [List.mem_singleton] at hj
  subst hj
  unfold wpOp
  simp only [hi, r.wants hw, if_true]
  refine .inl ?_
  unfold Oper.wp
  rw [h1, Oper.upon_enter]
  refine (c.calls r.heap h2).mono fun e w' ⟨R0, U', e1, hvr, st, hH, hs⟩ => ?_
  subst e1
  have r1 := r.stp st hH
  exact ⟨fun _ => hs, wpAnyK_mono (fun e a2 w2 q => RP_trans (st.low r.base) q) _ _ _ _ (t U' m _ w' (r1.putR hk hvr))⟩
/-- Any call, the one operation that may come. -/
theorem TA.call {f : FuncId} {xs : Array Operand} {ats : Array TypeId} {args vs : List V} {R : V → Hp → Prop} (i : Nat) (hi : ops[i]? = some o) (ho : o.op = .call { callee := .value (.func f), args := xs, argTypes := ats })
    (c : Call E f args h R) (he : Enters E f) (hv : evL s xs.toList = some vs) (ha : AL vs args) (hw : Wants s ops o true) (hk : dstOk o.dst k = true) (hr : Region.ready .any ops listed = [i]) (hg : g i = false)
    (t : ∀ r h', R r h' → TA E k B ops g n (listed.setIfInBounds i true) (putR o.dst r s) h' Q) : TA E k B ops g (n + 1) listed s h Q := fun U m a w r => by
  obtain ⟨as, h1, h2⟩ := call_run r ho he hv ha
  refine ⟨(fun e => by rw [hr] at e; cases e), fun j hj => ?_⟩
  rw [hr] at hj
  simp only [List.mem_singleton] at hj
  subst hj
  unfold wpOp
  simp only [hi, r.wants hw, if_true]
  refine .inl ?_
  unfold Oper.wp
  rw [h1, Oper.upon_enter]
  refine (c U m w as r.heap h2).mono fun e w' ⟨rv, R0, U', m', h', e1, q, hvr, hH, st⟩ => ?_
  subst e1
  have r1 := r.stp st hH
  exact ⟨(fun e => by rw [hg] at e; cases e), wpAnyK_mono (fun e a2 w2 q => RP_trans (st.low r.base) q) _ _ _ _ (t rv h' q U' m' _ w' (r1.putR hk hvr))⟩
theorem TA.done (hr : Region.ready .any ops listed = []) (q : Q .normal s h) : TA E k B ops g n listed s h Q := fun U m a w r => by
  cases n with
  | zero => exact ⟨hr, U, m, s, h, q, r, .refl ..⟩
  | succ n => exact ⟨fun _ => ⟨U, m, s, h, q, r, .refl ..⟩, fun i hi => by rw [hr] at hi; cases hi⟩
end
end Go.Proofs.Ythkoinngmcpjgaa

/-
  The logic's rules for comparing structs and arrays. Conditions: none.
-/
namespace Go.Proofs.Ythkoinngmcpjgaa
open Go.RowKit

theorem forIn_all {α : Type} {P : Program} {w : World} {F : α → (Option Bool × Unit) → Sem (ForInStep (Option Bool × Unit))} {b : α → Bool} : ∀ l : List α, (∀ x ∈ l, (F x (none, ())).run P w = .ok (if b x then .yield (none, ()) else .done (some false, ())) w) →
    (forIn l (none, ()) F).run P w = .ok (if l.all b then (none, ()) else (some false, ())) w
  | [], _ => rfl
  | x :: l, h => by
    rw [List.forIn_cons, Sem.run_bind, h x (by simp)]
    simp only [Result.andThen_ok]
    cases hb : b x
    · simp [hb]
    · simp only [if_true, List.all_cons, hb, Bool.true_and]
      exact forIn_all l (fun y hy => h y (by simp [hy]))

/-- The kind of a cell that may be compared. -/
inductive Kd where
  | int | bool | str
def isKd : Kd → Value → Value → Bool → Prop
  | .int, x, y, c => ∃ k a b, x = .int k a ∧ y = .int k b ∧ c = (a == b)
  | .bool, x, y, c => ∃ a b, x = .bool a ∧ y = .bool b ∧ c = (a == b)
  | .str, x, y, c => ∃ a b, x = .string a ∧ y = .string b ∧ c = (a == b)
/-- Cells of these kinds, and whether they are the same, each. -/
structure KdL (ks : List Kd) (xs ys : List Value) (cs : List Bool) : Prop where
  lx : xs.length = ks.length
  ly : ys.length = ks.length
  lc : cs.length = ks.length
  at_ : ∀ (j : Nat) (k : Kd) (x y : Value) (c : Bool), ks[j]? = some k → xs[j]? = some x → ys[j]? = some y → cs[j]? = some c → isKd k x y c
theorem KdL.app {k1 k2 : List Kd} {xs ys : List Value} {cs : List Bool} (h : KdL (k1 ++ k2) xs ys cs) : KdL k1 (xs.take k1.length) (ys.take k1.length) (cs.take k1.length) ∧ KdL k2 (xs.drop k1.length) (ys.drop k1.length) (cs.drop k1.length) := by
  obtain ⟨h1, h2, h3, h4⟩ := h
  simp only [List.length_append] at h1 h2 h3
  refine ⟨⟨by simp; omega, by simp; omega, by simp; omega, fun j k x y c e1 e2 e3 e4 => ?_⟩, ⟨by simp; omega, by simp; omega, by simp; omega, fun j k x y c e1 e2 e3 e4 => ?_⟩⟩
  · rw [List.getElem?_take] at e2 e3 e4
    have hj := (List.getElem?_eq_some_iff.1 e1).1
    rw [if_pos hj] at e2 e3 e4
    exact h4 j k x y c (by rw [List.getElem?_append_left hj]; exact e1) e2 e3 e4
  · rw [List.getElem?_drop] at e2 e3 e4
    exact h4 (k1.length + j) k x y c (by rw [List.getElem?_append_right (by omega)]; simpa using e1) e2 e3 e4
mutual
/-- A type whose values are made of such cells. -/
inductive EqTy (E : Env) : Nat → TypeId → List Kd → Prop where
  | int {d : Nat} {t : TypeId} {k : IntKind} {tz tb : Nat} {tr : Option Value} (ht : lk E.tab t = some ⟨.int k, tz, tb, tr⟩) (hz : tz = 1) : EqTy E (d + 1) t [.int]
  | bool {d : Nat} {t : TypeId} {tz tb : Nat} {tr : Option Value} (ht : lk E.tab t = some ⟨.bool, tz, tb, tr⟩) (hz : tz = 1) : EqTy E (d + 1) t [.bool]
  | str {d : Nat} {t : TypeId} {tz tb : Nat} {tr : Option Value} (ht : lk E.tab t = some ⟨.string, tz, tb, tr⟩) (hz : tz = 1) : EqTy E (d + 1) t [.str]
  | arr {d : Nat} {t e : TypeId} {n tz tb : Nat} {tr : Option Value} {ks : List Kd} (ht : lk E.tab t = some ⟨.array n e, tz, tb, tr⟩) (hz : tz = n * ks.length) (he : EqTy E d e ks) {kk : List Kd} (hk : kk = (List.replicate n ks).flatten) : EqTy E (d + 1) t kk
  | struct {d : Nat} {t : TypeId} {fs : Array Field} {tz tb : Nat} {tr : Option Value} {ks : List Kd} (ht : lk E.tab t = some ⟨.struct fs, tz, tb, tr⟩) (hz : tz = ks.length) (hs : E.P.stoodInHeld t = false) (hf : EqFs E d fs.toList 0 ks) : EqTy E (d + 1) t ks
inductive EqFs (E : Env) : Nat → List Field → Nat → List Kd → Prop where
  | nil {d o : Nat} : EqFs E d [] o []
  | cons {d o : Nat} {f : Field} {r : List Field} {k1 k2 ks : List Kd} (ho : f.offset = o) (hn : f.name ≠ "_") (hf : EqTy E d f.type k1) (hr : EqFs E d r (o + k1.length) k2) (hk : ks = k1 ++ k2) : EqFs E d (f :: r) o ks
end
def wrapG : Bool → List Value → Value
  | true, l => .agg l.toArray
  | false, l => l.headD undef
section
variable {E : Env}
theorem EqTy.size {d : Nat} {t : TypeId} {ks : List Kd} (h : EqTy E d t ks) : ∃ ty, lk E.tab t = some ty ∧ (aggD ty.d = false → ks.length = 1) := by
  cases h with
  | int ht hz => exact ⟨_, ht, fun _ => rfl⟩
  | bool ht hz => exact ⟨_, ht, fun _ => rfl⟩
  | str ht hz => exact ⟨_, ht, fun _ => rfl⟩
  | arr ht hz he hkk => exact ⟨_, ht, fun h => by cases h⟩
  | struct ht hz hs hf => exact ⟨_, ht, fun h => by cases h⟩
/-- The size that the table tells is the number of cells. -/
def SizeOk (E : Env) (t : TypeId) (ks : List Kd) : Prop := ∃ ty, lk E.tab t = some ty ∧ ty.size = ks.length
theorem part_run {t : TypeId} {ks : List Kd} {xs : Array Value} {off : Nat} {d : Nat} (h : EqTy E d t ks) (hs : SizeOk E t ks) (hl : off + ks.length ≤ xs.size) (w : World) : ∃ ty, lk E.tab t = some ty ∧ (part t xs off).run E.P w = .ok (wrapG (aggD ty.d) ((xs.toList.drop off).take ks.length)) w := by
  obtain ⟨ty, h1, h2⟩ := hs
  obtain ⟨ty', h3, h4⟩ := h.size
  rw [h1] at h3; injection h3 with h3; subst h3
  refine ⟨ty, h1, ?_⟩
  obtain ⟨td, tz, tb, tr⟩ := ty
  dsimp only at h2 h4 ⊢
  cases hg : aggD td
  · have h5 := h4 hg
    have hr := run_part (P := E.P) (vs := xs) (off := off) (isagg h1 w) (szo h1 w) (by rw [hg]; simp; omega)
    rw [hr, hg, h5]
    have hx : off < xs.size := by omega
    simp [wrapG, List.take_one, List.head?_drop, hx]
  · have hr := run_part (P := E.P) (vs := xs) (off := off) (isagg h1 w) (szo h1 w) (by rw [hg]; simp; omega)
    rw [hr, hg]
    simp only [if_true, wrapG, h2]
    congr 2
    apply congrArg List.toArray
    apply List.ext_getElem?
    intro j
    rw [List.getElem?_map, List.getElem?_take]
    by_cases hj : j < ks.length
    · have hx : off + j < xs.size := by omega
      rw [List.getElem?_range hj, if_pos hj, List.getElem?_drop]
      simp [hx]
    · rw [if_neg hj, List.getElem?_eq_none (by simp; omega)]; rfl
theorem EqTy.sizeOk {d : Nat} {t : TypeId} {ks : List Kd} (h : EqTy E d t ks) : SizeOk E t ks := by
  cases h with
  | int ht hz => exact ⟨_, ht, hz⟩
  | bool ht hz => exact ⟨_, ht, hz⟩
  | str ht hz => exact ⟨_, ht, hz⟩
  | arr ht hz he hkk => exact ⟨_, ht, by rw [hz, hkk]; simp [List.length_flatten]⟩
  | struct ht hz hs hf => exact ⟨_, ht, hz⟩
theorem kd_one {k : Kd} {xs ys : List Value} {cs : List Bool} (h : KdL [k] xs ys cs) : ∃ x y c, xs = [x] ∧ ys = [y] ∧ cs = [c] ∧ isKd k x y c := by
  obtain ⟨h1, h2, h3, h4⟩ := h
  match xs, h1, ys, h2, cs, h3 with
  | [x], _, [y], _, [c], _ => exact ⟨x, y, c, rfl, rfl, rfl, h4 0 k x y c rfl rfl rfl rfl⟩
/-- A part's comparing. -/
theorem part_eq {d : Nat} {t : TypeId} {ks : List Kd} (he : EqTy E d t ks) (ih : ∀ (xs ys : List Value) (cs : List Bool), KdL ks xs ys cs → ∀ w ty, lk E.tab t = some ty → (Op.equalIn d t (wrapG (aggD ty.d) xs) (wrapG (aggD ty.d) ys)).run E.P w = .ok (cs.all id) w)
    {X Y : Array Value} {off : Nat} {cs : List Bool} (hk : KdL ks ((X.toList.drop off).take ks.length) ((Y.toList.drop off).take ks.length) cs) (hx : off + ks.length ≤ X.size) (hy : off + ks.length ≤ Y.size) (w : World) {γ : Type} (g : Bool → Sem γ) :
    (do let a ← part t X off; let b ← part t Y off; let c ← Op.equalIn d t a b; g c : Sem γ).run E.P w = (g (cs.all id)).run E.P w := by
  obtain ⟨ty, h1, h2⟩ := part_run he he.sizeOk hx w
  obtain ⟨ty', h3, h4⟩ := part_run he he.sizeOk hy w
  rw [h1] at h3; injection h3 with h3; subst h3
  simp only [Sem.run_bind, h2, h4, Result.andThen_ok, ih _ _ _ hk w ty h1]
theorem run_equal : ∀ (d : Nat) (t : TypeId) (ks : List Kd), EqTy E d t ks → ∀ (xs ys : List Value) (cs : List Bool), KdL ks xs ys cs → ∀ w ty, lk E.tab t = some ty →
    (Op.equalIn d t (wrapG (aggD ty.d) xs) (wrapG (aggD ty.d) ys)).run E.P w = .ok (cs.all id) w := by
  intro d
  induction d with
  | zero => intro t ks h; cases h
  | succ d ih =>
    intro t ks h xs ys cs hk w ty hty
    have hu := fun w => und hty w
    cases h with
    | int ht hz =>
      rw [ht] at hty; injection hty with hty; subst hty
      obtain ⟨x, y, c, rfl, rfl, rfl, k, a, b, rfl, rfl, rfl⟩ := kd_one hk
      rw [Op.equalIn]
      simp [wrapG, aggD, und ht w]
    | bool ht hz =>
      rw [ht] at hty; injection hty with hty; subst hty
      obtain ⟨x, y, c, rfl, rfl, rfl, a, b, rfl, rfl, rfl⟩ := kd_one hk
      rw [Op.equalIn]
      simp [wrapG, aggD, und ht w]
    | str ht hz =>
      rw [ht] at hty; injection hty with hty; subst hty
      obtain ⟨x, y, c, rfl, rfl, rfl, a, b, rfl, rfl, rfl⟩ := kd_one hk
      rw [Op.equalIn]
      simp [wrapG, aggD, und ht w]
    | @arr _ _ e n _ _ _ ke ht hz he _ hkk =>
      subst hkk
      rw [ht] at hty; injection hty with hty; subst hty
      obtain ⟨te, hte1, hte2⟩ := he.sizeOk
      have hlen : (List.replicate n ke).flatten.length = n * ke.length := by simp [List.length_flatten]
      obtain ⟨kx, ky, kc, kat⟩ := hk
      rw [hlen] at kx ky kc
      rw [Op.equalIn]
      simp only [wrapG, aggD, Sem.run_bind, und ht w, Result.andThen_ok]
      have hse : (sizeOf e).run E.P w = .ok ke.length w := by obtain ⟨a1, a2, a3, a4⟩ := te; dsimp only at hte2; rw [← hte2]; exact szo hte1 w
      simp only [hse, Result.andThen_ok, Std.Legacy.Range.forIn_eq_forIn_range']
      have key : ∀ i, i < n → KdL ke ((xs.drop (i * ke.length)).take ke.length) ((ys.drop (i * ke.length)).take ke.length) ((cs.drop (i * ke.length)).take ke.length) ∧ (i + 1) * ke.length ≤ n * ke.length := fun i hi => by
        have h1 : (i + 1) * ke.length ≤ n * ke.length := Nat.mul_le_mul_right _ hi
        have h2 : i * ke.length + ke.length ≤ n * ke.length := by rw [Nat.add_mul, Nat.one_mul] at h1; exact h1
        refine ⟨⟨by simp; omega, by simp; omega, by simp; omega, fun j k x y c e1 e2 e3 e4 => ?_⟩, h1⟩
        have hj := (List.getElem?_eq_some_iff.1 e1).1
        rw [List.getElem?_take, if_pos hj, List.getElem?_drop] at e2 e3 e4
        refine kat (i * ke.length + j) k x y c ?_ e2 e3 e4
        have : ∀ (n i : Nat), i < n → ((List.replicate n ke).flatten)[i * ke.length + j]? = ke[j]? := by
          intro n
          induction n with
          | zero => intro i hi; omega
          | succ n ihn =>
            intro i hi
            rw [List.replicate_succ, List.flatten_cons]
            cases i with
            | zero => rw [Nat.zero_mul, Nat.zero_add, List.getElem?_append_left hj]
            | succ i =>
              rw [List.getElem?_append_right (by rw [Nat.add_mul]; omega), Nat.add_mul, Nat.one_mul, show i * ke.length + ke.length + j - ke.length = i * ke.length + j by omega]
              exact ihn i (by omega)
        rw [this n i hi]; exact e1
      rw [forIn_all (b := fun i => ((cs.drop (i * ke.length)).take ke.length).all id)]
      · simp only [Result.andThen_ok]
        have hall : ((List.range' 0 (([:n] : Std.Legacy.Range).size) 1).all fun i => ((cs.drop (i * ke.length)).take ke.length).all id) = cs.all id := by
          have hsz : ([:n] : Std.Legacy.Range).size = n := by simp [Std.Legacy.Range.size]
          rw [hsz]
          clear kat kx ky hz key
          have : ∀ (n : Nat) (cs : List Bool) (s : Nat), cs.length = (s + n) * ke.length → ((List.range' s n 1).all fun i => ((cs.drop (i * ke.length)).take ke.length).all id) = (cs.drop (s * ke.length)).all id := by
            intro n
            induction n with
            | zero => intro cs s hc; simp only [List.range'_zero, List.all_nil]; rw [List.drop_eq_nil_of_le (by simp only [Nat.add_zero] at hc; omega)]; rfl
            | succ n ihn =>
              intro cs s hc
              rw [List.range'_succ, List.all_cons, ihn cs (s + 1) (by rw [hc]; congr 1; omega)]
              have e : cs.drop (s * ke.length) = (cs.drop (s * ke.length)).take ke.length ++ cs.drop ((s + 1) * ke.length) := by
                rw [Nat.add_mul, Nat.one_mul, ← List.drop_drop, List.take_append_drop]
              conv => rhs; rw [e, List.all_append]
          have := this n cs 0 (by simpa using kc)
          simpa using this
        have hall' : ((List.range' ([:n] : Std.Legacy.Range).start ([:n] : Std.Legacy.Range).size ([:n] : Std.Legacy.Range).step).all fun i => ((cs.drop (i * ke.length)).take ke.length).all id) = cs.all id := hall
        rw [hall']
        cases cs.all id <;> rfl
      · intro i hi
        have hi' : i < n := by
          have := List.mem_range'.1 hi
          obtain ⟨j, hj, rfl⟩ := this
          have hsz : ([:n] : Std.Legacy.Range).size = n := by simp [Std.Legacy.Range.size]
          rw [hsz] at hj
          show 0 + 1 * j < n
          omega
        obtain ⟨k1, k2⟩ := key i hi'
        rw [Nat.add_mul, Nat.one_mul] at k2
        rw [part_eq he (ih e ke he) (X := xs.toArray) (Y := ys.toArray) (by simpa using k1) (by simp; omega) (by simp; omega) w]
        cases ((cs.drop (i * ke.length)).take ke.length).all id <;> rfl
    | @struct _ _ fs _ _ _ _ ht hz hs hf =>
      rw [ht] at hty; injection hty with hty; subst hty
      rw [Op.equalIn]
      simp only [wrapG, aggD, Sem.run_bind, und ht w, Result.andThen_ok]
      have hpr : (program).run E.P w = .ok E.P w := rfl
      rw [hpr]
      simp only [Result.andThen_ok, hs, Bool.false_eq_true, if_false, Sem.run_bind]
      rw [← Array.forIn_toList]
      have key : ∀ (fl : List Field) (o : Nat) (kk : List Kd), EqFs E d fl o kk → ∀ (cc : List Bool), KdL kk (xs.drop o) (ys.drop o) cc → o ≤ xs.length → o ≤ ys.length →
          (forIn fl ((none : Option Bool), ()) fun f _ => if f.name ≠ "_" then (do let a ← part f.type xs.toArray f.offset; let b ← part f.type ys.toArray f.offset; let c ← Op.equalIn d f.type a b; if (!c) = true then pure (ForInStep.done (some false, ())) else pure (ForInStep.yield (none, ()))) else pure (ForInStep.yield (none, ())) : Sem (Option Bool × Unit)).run E.P w = .ok (if cc.all id then (none, ()) else (some false, ())) w := by
        intro fl
        induction fl with
        | nil =>
          intro o kk h cc hc _ _
          cases h
          have : cc = [] := List.eq_nil_of_length_eq_zero hc.lc
          subst this; rfl
        | cons f r ihf =>
          intro o kk h cc hc ho1 ho2
          cases h with | @cons _ _ _ _ k1 k2 _ hof hn hfe hr hkk =>
          subst hof
          subst hkk
          obtain ⟨c1, c2⟩ := hc.app
          have l1 := hc.lx; have l2 := hc.ly; have l3 := hc.lc
          simp only [List.length_append, List.length_drop] at l1 l2 l3
          rw [List.forIn_cons, Sem.run_bind, if_pos hn]
          rw [part_eq hfe (ih f.type k1 hfe) (X := xs.toArray) (Y := ys.toArray) c1 (by simp; omega) (by simp; omega) w]
          have hsplit : cc.all id = ((cc.take k1.length).all id && (cc.drop k1.length).all id) := by rw [← List.all_append, List.take_append_drop]
          rw [hsplit]
          cases hb : (cc.take k1.length).all id
          · simp
          · simp only [Bool.not_true, Bool.false_eq_true, if_false, Sem.run_pure, Result.andThen_ok, Bool.true_and]
            refine ihf (f.offset + k1.length) k2 hr (cc.drop k1.length) (by rw [List.drop_drop] at c2; simpa [List.drop_drop] using c2) (by omega) (by omega)
      rw [key fs.toList 0 ks hf cs (by simpa using hk) (by omega) (by omega)]
      cases cs.all id <;> rfl
end
end Go.Proofs.Ythkoinngmcpjgaa

/-
  The logic's rules: structs compared, parts of slices, function values, calls that read what is at hand, least and greatest. Conditions: none.
-/
namespace Go.Proofs.Ythkoinngmcpjgaa
open Go.RowKit

def sameK : IntKind → IntKind → Bool
  | .i8, .i8 | .i16, .i16 | .i32, .i32 | .i64, .i64 | .u8, .u8 | .u16, .u16 | .u32, .u32 | .u64, .u64 => true
  | _, _ => false
theorem sameK_eq {a b : IntKind} (h : sameK a b = true) : a = b := by cases a <;> cases b <;> first | rfl | cases h
/-- Cell by cell, whether they are the same. -/
def eqF : List Kd → List V → List V → Option (List Bool)
  | [], [], [] => some []
  | .int :: ks, .d (.int k a) :: cs, .d (.int k' b) :: ds => match sameK k k', eqF ks cs ds with
    | true, some l => some (decide (a = b) :: l)
    | _, _ => none
  | .bool :: ks, .d (.bool a) :: cs, .d (.bool b) :: ds => match eqF ks cs ds with
    | some l => some (decide (a = b) :: l)
    | none => none
  | .str :: ks, .d (.str a) :: cs, .d (.str b) :: ds => match eqF ks cs ds with
    | some l => some ((a == b) :: l)
    | none => none
  | _, _, _ => none
def ptrLike : V → Bool
  | .ptr _ _ => true
  | .d (.lptr _) => true
  | .d (.fn _) => true
  | .fn _ _ _ => true
  | _ => false
def allB : List Bool → Bool
  | [] => true
  | [b] => b
  | b :: r => b && allB r
theorem allB_eq : ∀ l : List Bool, allB l = l.all id
  | [] => rfl
  | [b] => by simp [allB]
  | b :: c :: r => by simp only [allB, List.all_cons, id, allB_eq (c :: r)]

section
variable {E : Env} {k B : Nat} {s s' : Slots} {h h' : Hp} {Q Q' : Post} {U : Nat → Prop} {m : Nat → Option Nat} {a : Act} {w w' : World} {o : Oper} {v : V} {d n : Nat} {t u e : TypeId} {td ed : TypeDesc} {tz tb ez eb : Nat} {tr er : Option Value} {x y : Operand} {ρ : Bool} {ops : Array Oper} {rest : List Oper}

theorem eqF_ok : ∀ {ks : List Kd} {cs ds : List V} {bs : List Bool} {xs ys : List Value}, eqF ks cs ds = some bs → PW (VR U m n w) cs xs → PW (VR U m n w) ds ys → KdL ks xs ys bs := by
  intro ks
  induction ks with
  | nil =>
    intro cs ds bs xs ys h1 h2 h3
    match cs, ds, h1 with
    | [], [], h1 =>
      simp only [eqF, Option.some.injEq] at h1; subst h1
      have e1 := h2.len; have e2 := h3.len
      have : xs = [] := List.eq_nil_of_length_eq_zero e1.symm
      have : ys = [] := List.eq_nil_of_length_eq_zero e2.symm
      subst_vars
      exact ⟨rfl, rfl, rfl, fun j k x y c e => by simp at e⟩
  | cons kd ks ih =>
    intro cs ds bs xs ys h1 h2 h3
    have step : ∀ (c d : V) (cs ds : List V) (x y : Value) (xs ys : List Value) (b : Bool) (l : List Bool), eqF ks cs ds = some l → PW (VR U m n w) (c :: cs) (x :: xs) → PW (VR U m n w) (d :: ds) (y :: ys) → isKd kd x y b → KdL (kd :: ks) (x :: xs) (y :: ys) (b :: l) := fun c d cs ds x y xs ys b l g1 g2 g3 g4 => by
      have := ih g1 (xs := xs) (ys := ys) ⟨by simpa using g2.len, fun j c v e1 e2 => g2.at_ (j + 1) c v (by simpa using e1) (by simpa using e2)⟩ ⟨by simpa using g3.len, fun j c v e1 e2 => g3.at_ (j + 1) c v (by simpa using e1) (by simpa using e2)⟩
      refine ⟨by simp [this.lx], by simp [this.ly], by simp [this.lc], fun j k x' y' c' e1 e2 e3 e4 => ?_⟩
      cases j with
      | zero => simp at e1 e2 e3 e4; subst e1; subst e2; subst e3; subst e4; exact g4
      | succ j => exact this.at_ j k x' y' c' (by simpa using e1) (by simpa using e2) (by simpa using e3) (by simpa using e4)
    have hd2 : ∀ (c : V) (cs : List V) (xs : List Value), PW (VR U m n w) (c :: cs) xs → ∃ x r, xs = x :: r ∧ VR U m n w c x := fun c cs xs g => by
      match xs, g.len with
      | x :: r, _ => exact ⟨x, r, rfl, g.at_ 0 c x rfl rfl⟩
    unfold eqF at h1
    split at h1
    · rename_i e1; cases e1
    · rename_i k a cs k' b ds e1
      injection e1 with e1 e2; subst e1; subst e2
      split at h1
      · rename_i l hk hl
        injection h1 with h1; subst h1
        obtain ⟨x, r, rfl, hx⟩ := hd2 _ _ _ h2
        obtain ⟨y, r', rfl, hy⟩ := hd2 _ _ _ h3
        have hkk := sameK_eq hk; subst hkk
        cases hx with | d hx =>
        cases hx
        cases hy with | d hy =>
        cases hy
        exact step _ _ _ _ _ _ _ _ _ _ hl h2 h3 ⟨k, a, b, rfl, rfl, rfl⟩
      · cases h1
    · rename_i a cs b ds e1
      injection e1 with e1 e2; subst e1; subst e2
      split at h1
      · rename_i l hl
        injection h1 with h1; subst h1
        obtain ⟨x, r, rfl, hx⟩ := hd2 _ _ _ h2
        obtain ⟨y, r', rfl, hy⟩ := hd2 _ _ _ h3
        cases hx with | d hx =>
        cases hx
        cases hy with | d hy =>
        cases hy
        exact step _ _ _ _ _ _ _ _ _ _ hl h2 h3 ⟨a, b, rfl, rfl, rfl⟩
      · cases h1
    · rename_i a cs b ds e1
      injection e1 with e1 e2; subst e1; subst e2
      split at h1
      · rename_i l hl
        injection h1 with h1; subst h1
        obtain ⟨x, r, rfl, hx⟩ := hd2 _ _ _ h2
        obtain ⟨y, r', rfl, hy⟩ := hd2 _ _ _ h3
        cases hx with | d hx =>
        cases hx
        cases hy with | d hy =>
        cases hy
        exact step _ _ _ _ _ _ _ _ _ _ hl h2 h3 ⟨a, b, rfl, rfl, rfl⟩
      · cases h1
    · cases h1
theorem agg_equal {ks : List Kd} {cs ds : List V} {bs : List Bool} (ht : lk E.tab t = some ⟨td, tz, tb, tr⟩) (hg : aggD td = true) (hk : EqTy E 10000 t ks) (hb : eqF ks cs ds = some bs) {xs ys : Array Value} (hx : VR U m n w (.agg cs) (.agg xs)) (hy : VR U m n w (.agg ds) (.agg ys)) (w1 : World) :
    (Op.equal t (.agg xs) (.agg ys)).run E.P w1 = .ok (allB bs) w1 := by
  cases hx with | agg lx ax =>
  cases hy with | agg ly ay =>
  have := run_equal 10000 t ks hk xs.toList ys.toList bs (eqF_ok hb ⟨by simpa using lx, fun j c v e1 e2 => ax j c v e1 (by simpa using e2)⟩ ⟨by simpa using ly, fun j c v e1 e2 => ay j c v e1 (by simpa using e2)⟩) w1 _ ht
  rw [allB_eq]
  simpa [wrapG, hg, Op.equal, Op.maxDepth] using this
theorem agg_guard {op : BinOp} (hg : E.P.eqGuardType E.P.depth t = false) (hop : op = .eql ∨ op = .neq) (xs ys : Array Value) (w1 : World) : (eqGuard op t x y (.agg xs) (.agg ys)).run E.P w1 = .ok () w1 := by
  have hpr : (program).run E.P w1 = .ok E.P w1 := rfl
  rcases hop with rfl | rfl <;> simp [eqGuard, hpr, hg]
theorem Yl.eqA {ks : List Kd} {cs ds : List V} {bs : List Bool} (ho : o.op = .binOp .eql t x y u) (hx : evO s x = some (.agg cs)) (hy : evO s y = some (.agg ds)) (ht : lk E.tab t = some ⟨td, tz, tb, tr⟩) (hg : aggD td = true) (hk : EqTy E 10000 t ks) (hq : E.P.eqGuardType E.P.depth t = false) (hb : eqF ks cs ds = some bs) : Yl ρ E k B s h o (vb (allB bs)) := fun U m a w r => by
  have h1 := r.opnd hx
  have h2 := r.opnd hy
  generalize hxe : a.eval x = xv at h1
  generalize hye : a.eval y = yv at h2
  refine ⟨.bool (allB bs), .d (.bool _), fun w' _ => ?_⟩
  have h1' := h1; have h2' := h2
  cases h1 with | agg =>
  cases h2 with | agg =>
  rename_i xs _ _ ys _ _
  have e := agg_equal ht hg hk hb h1' h2' w'
  simp only [execOp, ho, hxe, hye, Sem.run_bind, agg_guard hq (.inl rfl), Result.andThen_ok, binOp, e, Sem.run_pure]
theorem Yl.neqA {ks : List Kd} {cs ds : List V} {bs : List Bool} (ho : o.op = .binOp .neq t x y u) (hx : evO s x = some (.agg cs)) (hy : evO s y = some (.agg ds)) (ht : lk E.tab t = some ⟨td, tz, tb, tr⟩) (hg : aggD td = true) (hk : EqTy E 10000 t ks) (hq : E.P.eqGuardType E.P.depth t = false) (hb : eqF ks cs ds = some bs) : Yl ρ E k B s h o (vb (!allB bs)) := fun U m a w r => by
  have h1 := r.opnd hx
  have h2 := r.opnd hy
  generalize hxe : a.eval x = xv at h1
  generalize hye : a.eval y = yv at h2
  refine ⟨.bool (!allB bs), .d (.bool _), fun w' _ => ?_⟩
  have h1' := h1; have h2' := h2
  cases h1 with | agg =>
  cases h2 with | agg =>
  rename_i xs _ _ ys _ _
  have e := agg_equal ht hg hk hb h1' h2' w'
  simp only [execOp, ho, hxe, hye, Sem.run_bind, agg_guard hq (.inr rfl), Result.andThen_ok, binOp, e, Sem.run_pure]
/-- Bools compared. -/
theorem Yl.eqlB {b1 b2 : Bool} (ho : o.op = .binOp .eql t x y u) (hx : evO s x = some (vb b1)) (hy : evO s y = some (vb b2)) (ht : lk E.tab t = some ⟨.bool, tz, tb, tr⟩) : Yl ρ E k B s h o (vb (decide (b1 = b2))) := fun U m a w r => by
  refine ⟨_, .d (.bool _), fun w' _ => ?_⟩
  have e : (Op.equal t (.bool b1) (.bool b2)).run E.P w' = .ok (b1 == b2) w' := by rw [Op.equal, Op.maxDepth, Op.equalIn]; simp [und ht w']
  have ed : (b1 == b2) = decide (b1 = b2) := by cases b1 <;> cases b2 <;> rfl
  rw [ed] at e
  simp [execOp, ho, r.evBool hx, r.evBool hy, eqGuard, binOp, e]
theorem Yl.neqB {b1 b2 : Bool} (ho : o.op = .binOp .neq t x y u) (hx : evO s x = some (vb b1)) (hy : evO s y = some (vb b2)) (ht : lk E.tab t = some ⟨.bool, tz, tb, tr⟩) : Yl ρ E k B s h o (vb (!decide (b1 = b2))) := fun U m a w r => by
  refine ⟨_, .d (.bool _), fun w' _ => ?_⟩
  have e : (Op.equal t (.bool b1) (.bool b2)).run E.P w' = .ok (b1 == b2) w' := by rw [Op.equal, Op.maxDepth, Op.equalIn]; simp [und ht w']
  have ed : (b1 == b2) = decide (b1 = b2) := by cases b1 <;> cases b2 <;> rfl
  rw [ed] at e
  simp [execOp, ho, r.evBool hx, r.evBool hy, eqGuard, binOp, e]
theorem Yl.eqlStr {b1 b2 : ByteArray} (ho : o.op = .binOp .eql t x y u) (hx : evO s x = some (.d (.str b1))) (hy : evO s y = some (.d (.str b2))) : Yl ρ E k B s h o (vb (b1.toList == b2.toList)) := fun U m a w r =>
  ⟨_, .d (.bool _), fun w' _ => by simp [execOp, ho, r.evStr hx, r.evStr hy, eqGuard, binOp, Op.stringOp]⟩
theorem Yl.neqStr {b1 b2 : ByteArray} (ho : o.op = .binOp .neq t x y u) (hx : evO s x = some (.d (.str b1))) (hy : evO s y = some (.d (.str b2))) : Yl ρ E k B s h o (vb (!(b1.toList == b2.toList))) := fun U m a w r =>
  ⟨_, .d (.bool _), fun w' _ => by simp [execOp, ho, r.evStr hx, r.evStr hy, eqGuard, binOp, Op.stringOp]⟩
/-- Function values. -/
theorem Yl.makeFunc {f : FuncId} {xs ys : Array Operand} {l1 l2 : List V} (ho : o.op = .makeFunc (.func f) xs ys) (h1 : evL s xs.toList = some l1) (h2 : evL s ys.toList = some l2) : Yl ρ E k B s h o (.fn f l1 l2) := fun U m a w r => by
  have e1 := evL_ok r xs.toList l1 h1
  have e2 := evL_ok r ys.toList l2 h2
  rw [show (xs.toList.map a.eval).toArray = xs.map a.eval by rw [← Array.toList_map]] at e1
  rw [show (ys.toList.map a.eval).toArray = ys.map a.eval by rw [← Array.toList_map]] at e2
  exact ⟨.func (.func f) (xs.map a.eval) (ys.map a.eval), .fn e1.len e2.len e1.at_ e2.at_, fun w' _ => by simp [execOp, ho, Instr.makeFunc]⟩
theorem Yl.nilCheck (ho : o.op = .nilCheck x) (hx : evO s x = some v) (hv : ptrLike v = true) : Yl ρ E k B s h o v := fun U m a w r => by
  have h1 := r.opnd hx
  generalize hxe : a.eval x = xv at h1
  refine ⟨xv, h1, fun w' _ => ?_⟩
  cases h1 with
  | ptr => simp [execOp, ho, hxe]
  | fn => simp [execOp, ho, hxe]
  | d h1 => cases h1 <;> first | (simp [ptrLike] at hv; done) | simp [execOp, ho, hxe]
  | un => cases hv
  | sl => cases hv
  | sl0 => cases hv
  | map => cases hv
  | el => cases hv
  | ifc => cases hv
  | nn => cases hv
  | agg => cases hv
  | tup => cases hv
/-- Least and greatest. -/
theorem Yl.max2 {q : IntKind} {i j c : Int} {ats : Array TypeId} (ho : o.op = .call { callee := .builtin .max, args := #[x, y], argTypes := ats }) (hx : evO s x = some (.d (.int q i))) (hy : evO s y = some (.d (.int q j))) (hc : (if j > i then j else i) = c) : Yl ρ E k B s h o (.d (.int q c)) := fun U m a w r =>
  ⟨_, .d (.int q c (by subst hc; split; exact r.evIntR hy; exact r.evIntR hx)), fun w' _ => by simp [execOp, ho, resolve, invoke, builtin, Builtin.max_, Builtin.max2, r.evInt hx, r.evInt hy, hc]⟩
theorem Yl.min2 {q : IntKind} {i j c : Int} {ats : Array TypeId} (ho : o.op = .call { callee := .builtin .min, args := #[x, y], argTypes := ats }) (hx : evO s x = some (.d (.int q i))) (hy : evO s y = some (.d (.int q j))) (hc : (if j < i then j else i) = c) : Yl ρ E k B s h o (.d (.int q c)) := fun U m a w r =>
  ⟨_, .d (.int q c (by subst hc; split; exact r.evIntR hy; exact r.evIntR hx)), fun w' _ => by simp [execOp, ho, resolve, invoke, builtin, Builtin.min_, Builtin.min2, r.evInt hx, r.evInt hy, hc]⟩

/-- A bound of a slice expression. -/
def bnd (s : Slots) (dflt : Nat) : Option Operand → Option Int
  | none => some dflt
  | some x => match evO s x with
    | some (.d (.int _ i)) => some i
    | _ => none
theorem run_bounds {P : Program} {g : Bool} {len cap : Nat} {lo hi : Option Operand} {l hh : Int} (r : SR k B U m s h a w) (hlo : bnd s 0 lo = some l) (hhi : bnd s len hi = some hh) (h0 : 0 ≤ l) (h1 : l ≤ hh) (h2 : hh ≤ cap) (hlc : len ≤ cap) (w1 : World) :
    (Instr.sliceBounds g len cap (lo.map a.eval) (hi.map a.eval) none).run P w1 = .ok (l.toNat, hh.toNat, cap) w1 := by
  have e1 : ∀ (x : Operand) (i : Int) (yy : Nat) (cd : BoundsCode), (∃ q, evO s x = some (.d (.int q i))) → 0 ≤ i → i ≤ yy → (Instr.sliceBound (a.eval x) yy cd).run P w1 = .ok i.toNat w1 := fun x i yy cd ⟨q, hq⟩ g0 g1 => by
    simp [Instr.sliceBound, r.evInt hq, asIntOf, g0, g1]
  have hb : ∀ (x : Operand) (df : Nat) (i : Int), bnd s df (some x) = some i → ∃ q, evO s x = some (.d (.int q i)) := fun x df i hx => by
    simp only [bnd] at hx
    split at hx
    · rename_i q j hq; injection hx with hx; subst hx; exact ⟨q, hq⟩
    · cases hx
  unfold Instr.sliceBounds
  cases hi with
  | none =>
    simp only [bnd, Option.some.injEq] at hhi
    cases lo with
    | none =>
      simp only [bnd, Option.some.injEq] at hlo
      subst hlo; subst hhi
      simp
    | some x =>
      simp only [Option.map_some, Option.map_none, Sem.run_pure, Sem.run_bind, Result.andThen_ok]
      rw [e1 x l len _ (hb x 0 l hlo) h0 (by omega)]
      subst hhi
      simp
  | some y =>
    cases lo with
    | none =>
      simp only [bnd, Option.some.injEq] at hlo
      simp only [Option.map_some, Option.map_none, Sem.run_pure, Sem.run_bind, Result.andThen_ok]
      rw [e1 y hh cap _ (hb y len hh hhi) (by omega) h2]
      subst hlo
      simp
    | some x =>
      simp only [Option.map_some, Option.map_none, Sem.run_pure, Sem.run_bind, Result.andThen_ok]
      rw [e1 y hh cap _ (hb y len hh hhi) (by omega) h2]
      simp only [Result.andThen_ok]
      rw [e1 x l hh.toNat _ (hb x 0 l hlo) h0 (by omega)]
      simp
/-- A part of a slice. -/
theorem Yl.sliceL {cs ds : List D} {lo hi : Option Operand} {l hh : Int} (ho : o.op = .slice t x lo hi none) (hx : evO s x = some (.d (.lst n cs))) (ht : lk E.tab t = some ⟨td, tz, tb, tr⟩) (hd : td = .slice e) (hte : lk E.tab e = some ⟨ed, ez, eb, er⟩) (hlo : bnd s 0 lo = some l) (hhi : bnd s n hi = some hh)
    (h0 : 0 ≤ l) (h1 : l ≤ hh) (h2 : hh ≤ n) (hds : (cs.drop (l.toNat * ez)).take ((hh.toNat - l.toNat) * ez) = ds) : Yl ρ E k B s h o (.d (.lst (hh.toNat - l.toNat) ds)) := fun U m a w r => by
  have h3 := r.evD hx
  generalize hv : a.eval x = v at h3
  cases h3 with | @lst _ _ A cap f hk hc ha hv2 =>
  have hu : ∀ w', (underlying t).run E.P w' = .ok (.slice e) w' := fun w' => by have := und ht w'; rw [hd] at this; exact this
  have run : ∀ w', (execOp a.eval o).run E.P w' = .ok (.value (.slice (if cap = l.toNat then A else A.map (·.add (l.toNat * ez))) (hh.toNat - l.toNat) (cap - l.toNat))) w' := fun w' => by
    have hb := run_bounds (P := E.P) (g := true) (len := n) (cap := cap) r hlo hhi h0 h1 (by omega) hk w'
    simp only [execOp, ho, Instr.sliceAt, hv, Sem.run_bind, hu w', Result.andThen_ok, Instr.slice, Option.map_none, hb, szo hte w', Sem.run_pure]
  have hin : ∀ j c, ds[j]? = some c → cs[l.toNat * ez + j]? = some c := fun j c hc => take_get hds hc
  refine ⟨_, .d (.lst (fun j => f (l.toNat * ez + j)) (by omega) (by omega) (fun j hj => ?_) (fun j c hc => hv2 _ c (hin j c hc))), fun w' _ => run w'⟩
  obtain ⟨ad, e1, e2, e3⟩ := ha _ (List.getElem?_eq_some_iff.1 (hin j _ (List.getElem?_eq_getElem hj))).1
  subst e1
  have add2 : ∀ o j, (ad.add o).add j = ad.add (o + j) := fun o j => by
    unfold Addr.add; split <;> split <;> split <;> simp_all [Nat.add_assoc]
  split
  · -- no room behind: no cell
    rename_i hcl
    have : ds.length ≤ (hh.toNat - l.toNat) * ez := by rw [← hds]; simp; omega
    have hz : hh.toNat - l.toNat = 0 := by omega
    rw [hz, Nat.zero_mul] at this
    omega
  · exact ⟨_, rfl, by rw [add_block]; exact e2, by rw [add2]; exact e3⟩
/-- A part of a row at hand, from its beginning. -/
theorem Yl.sliceS {id off ec : Nat} {lo hi : Option Operand} {l hh : Int} (ho : o.op = .slice t x lo hi none) (hx : evO s x = some (.sl ec id off n)) (ht : lk E.tab t = some ⟨td, tz, tb, tr⟩) (hd : td = .slice e) (hte : lk E.tab e = some ⟨ed, ez, eb, er⟩) (hez : ez = ec) (hlo : bnd s 0 lo = some l) (hhi : bnd s n hi = some hh)
    (h0 : 0 ≤ l) (h1 : l ≤ hh) (h2 : hh ≤ n) (hl : l = 0 ∨ l < hh) : Yl ρ E k B s h o (.sl ec id (off + l.toNat * ec) (hh.toNat - l.toNat)) := fun U m a w r => by
  subst hez
  have h3 := r.opnd hx
  generalize hv : a.eval x = v at h3
  have hu : ∀ w', (underlying t).run E.P w' = .ok (.slice e) w' := fun w' => by have := und ht w'; rw [hd] at this; exact this
  cases h3 with
  | sl0 hid hm =>
    have hl0 : l = 0 := by omega
    have hh0 : hh = 0 := by omega
    subst hl0; subst hh0
    refine ⟨_, .sl0 (off := off + Int.toNat 0 * ez) hid hm, fun w' _ => ?_⟩
    have hb := run_bounds (P := E.P) (g := true) (len := 0) (cap := 0) r hlo hhi h0 h1 (by omega) (Nat.le_refl _) w'
    simp only [execOp, ho, Instr.sliceAt, hv, Sem.run_bind, hu w', Result.andThen_ok, Instr.slice, Option.map_none, hb, szo hte w', Sem.run_pure]
    rfl
  | @sl _ _ _ _ xx cap z hid hm hk hc hz hs =>
    refine ⟨.slice (some ⟨xx, off + l.toNat * ez, none⟩) (hh.toNat - l.toNat) (cap - l.toNat), .sl hid hm (by omega) (by omega) hz ?_, fun w' _ => ?_⟩
    · have : (cap - l.toNat) * ez + l.toNat * ez = cap * ez := by rw [← Nat.add_mul]; congr 1; omega
      omega
    · have hb := run_bounds (P := E.P) (g := true) (len := n) (cap := cap) r hlo hhi h0 h1 (by omega) hk w'
      simp only [execOp, ho, Instr.sliceAt, hv, Sem.run_bind, hu w', Result.andThen_ok, Instr.slice, Option.map_none, hb, szo hte w', Sem.run_pure, Option.map_some, Addr.add_lit]
      have : (if cap = l.toNat then (some ⟨xx, off, none⟩ : Option Addr) else some ⟨xx, off + l.toNat * ez, none⟩) = some ⟨xx, off + l.toNat * ez, none⟩ := by
        split
        · have : l = 0 := by omega
          subst this; simp
        · rfl
      rw [this]
/-- A slice of an array at hand. -/
theorem Yl.sliceA {id off len : Nat} {cs : List V} {lo hi : Option Operand} {l hh : Int} (ho : o.op = .slice t x lo hi none) (hx : evO s x = some (.ptr id off)) (ht : lk E.tab t = some ⟨td, tz, tb, tr⟩) (hd : td = .array len e) (hte : lk E.tab e = some ⟨ed, ez, eb, er⟩) (hb : lk h.b id = some (some (.cells cs))) (hin : Nat.ble (off + len * ez) cs.length = true) (hlen : Nat.ble len 4611686018427387904 = true) (hlo : bnd s 0 lo = some l) (hhi : bnd s len hi = some hh)
    (h0 : 0 ≤ l) (h1 : l ≤ hh) (h2 : hh ≤ len) (hl : l = 0 ∨ l < hh) : Yl ρ E k B s h o (.sl ez id (off + l.toNat * ez) (hh.toNat - l.toNat)) := fun U m a w r => by
  obtain ⟨b, g1, g2, g3⟩ := r.evPtr hx
  obtain ⟨_, hbr⟩ := r.heap.live id _ hb
  rw [g1] at hbr
  cases hbr with | cells hbr =>
  obtain ⟨arr, et, q1, q2, q3⟩ := hbr
  have hin' := Nat.le_of_ble_eq_true hin
  have hlen' := Nat.le_of_ble_eq_true hlen
  have hu : ∀ w', (underlying t).run E.P w' = .ok (.array len e) w' := fun w' => by have := und ht w'; rw [hd] at this; exact this
  have hmul : (len - l.toNat) * ez + l.toNat * ez = len * ez := by rw [← Nat.add_mul]; congr 1; omega
  refine ⟨.slice (some ⟨b, off + l.toNat * ez, none⟩) (hh.toNat - l.toNat) (len - l.toNat), .sl g3 g1 (by omega) (by simp only [maxLen]; omega) ⟨arr, et, _, q1, rfl⟩ (by omega), fun w' _ => ?_⟩
  have hbb := run_bounds (P := E.P) (g := false) (len := len) (cap := len) r hlo hhi h0 h1 h2 (Nat.le_refl _) w'
  simp only [execOp, ho, Instr.sliceAt, g2, Sem.run_bind, hu w', Result.andThen_ok, Instr.sureAddr, Option.map_none, hbb, szo hte w', Sem.run_pure, Addr.add_lit]
  have : (if len = l.toNat then (⟨b, off, none⟩ : Addr) else ⟨b, off + l.toNat * ez, none⟩) = ⟨b, off + l.toNat * ez, none⟩ := by
    split
    · have : l = 0 := by omega
      subst this; simp
    · rfl
  rw [this]
/-- A slice as an array's address. -/
theorem Yl.arrS {ec id off len : Nat} (ho : o.op = .sliceToArrayPointer t x) (hx : evO s x = some (.sl ec id off n)) (ht : lk E.tab t = some ⟨.array len e, tz, tb, tr⟩) (hl : len ≤ n) (hp : 0 < len) : Yl ρ E k B s h o (.ptr id off) := fun U m a w r => by
  have h3 := r.opnd hx
  generalize hv : a.eval x = v at h3
  cases h3 with
  | sl0 => omega
  | @sl _ _ _ _ xx cap z hid hm hk hc hz hs =>
    refine ⟨.pointer (some ⟨xx, off, none⟩), .ptr hid hm, fun w' _ => ?_⟩
    have hu := und ht w'
    simp only [execOp, ho, Instr.arrayAt, hv, Sem.run_bind, hu, Result.andThen_ok, if_neg (show ¬ n < len by omega), Sem.run_pure]

/-- Lent. -/
def lent (U : Nat → Prop) (m : Nat → Option Nat) (b : Heap) : Nat → Prop := fun x => U x ∨ Own m b x
/-- What is known of a value when the blocks at hand are lent: rows and variables are data. -/
def BLe (h : Hp) (v v' : V) : Prop := ∀ (U : Nat → Prop) (m : Nat → Option Nat) (w : World) (r : Value), HR U m h.n h.b w → VR U m h.n w v r → VR (lent U m h.b) m h.n w v' r
inductive BL (h : Hp) : List V → List V → Prop where
  | nil : BL h [] []
  | cons {v v' : V} {l l' : List V} (g : BLe h v v') (k : BL h l l') : BL h (v :: l) (v' :: l')
theorem cr_D {x : Nat} {cs : List V} {l : List D} {arr : Array Value} {off c : Nat} (hc : ∀ (j : Nat) (c : V) (v : Value), cs[j]? = some c → arr[j]? = some v → VR U m n w c v) (hsz : cs.length ≤ arr.size) (hl : (cs.drop off).take c = l.map .d) {j : Nat} {d : D} (hd : l[j]? = some d) : ∃ r, arr[off + j]? = some r ∧ DR U w d r := by
  have h1 : ((cs.drop off).take c)[j]? = some (.d d) := by rw [hl, List.getElem?_map, hd]; rfl
  have h2 := take_get rfl h1
  have h3 : off + j < arr.size := Nat.lt_of_lt_of_le (List.getElem?_eq_some_iff.1 h2).1 hsz
  have := hc _ _ _ h2 (Array.getElem?_eq_getElem h3)
  cases this with | d g => exact ⟨_, Array.getElem?_eq_getElem h3, g⟩
theorem BLe.le {v v' : V} (l : VLe v v') : BLe h v v' := fun U m w r hH hv =>
  (hv.le l).mono (fun x hx => .inl hx) (fun _ _ => rfl) (fun _ _ h => h) (Nat.le_refl _) (fun _ _ => rfl)
theorem BLe.row {ec id off n : Nat} {cs l : List D} (hb : lk h.b id = some (some (.dat cs))) (hl : (cs.drop off).take (n * ec) = l) (hz : l.length = n * ec) : BLe h (.sl ec id off n) (.d (.lst n l)) := fun U m w r hH hv => by
  have hU : ∀ x, U x → lent U m h.b x := fun x hx => .inl hx
  cases hv with
  | sl0 hid hm =>
    have : l = [] := List.eq_nil_of_length_eq_zero (by omega)
    subst this; exact .d (DR.nil_lst .nsl)
  | @sl _ _ _ _ xx cap z hid hm hk hc hz2 hs =>
    obtain ⟨_, hbr⟩ := hH.live id _ hb
    rw [hm] at hbr
    cases hbr with | dat hbr =>
    obtain ⟨arr, et, g1, g2, g3⟩ := hbr
    refine .d (.lst (fun j => arr.getD (off + j) undef) hk hc (fun j hj => ⟨_, rfl, .inr ⟨id, _, hb, hm⟩, ?_⟩) (fun j c hc2 => ?_))
    · have e2 := take_get hl (List.getElem?_eq_getElem hj)
      have e3 : off + j < arr.size := Nat.lt_of_lt_of_le (List.getElem?_eq_some_iff.1 e2).1 g2
      rw [Addr.add_lit, cell_of_arr g1, Array.getD_eq_getD_getElem?, Array.getElem?_eq_getElem e3]; rfl
    · have e2 := take_get hl hc2
      have e3 : off + j < arr.size := Nat.lt_of_lt_of_le (List.getElem?_eq_some_iff.1 e2).1 g2
      rw [Array.getD_eq_getD_getElem?, Array.getElem?_eq_getElem e3]
      exact (g3 _ _ _ e2 (Array.getElem?_eq_getElem e3)).mono hU (fun _ _ => rfl)
theorem BLe.rowC {ec id off n : Nat} {cs : List V} {l : List D} (hb : lk h.b id = some (some (.cells cs))) (hl : unD ((cs.drop off).take (n * ec)) = some l) (hz : l.length = n * ec) : BLe h (.sl ec id off n) (.d (.lst n l)) := fun U m w r hH hv => by
  have hU : ∀ x, U x → lent U m h.b x := fun x hx => .inl hx
  cases hv with
  | sl0 hid hm =>
    have : l = [] := List.eq_nil_of_length_eq_zero (by omega)
    subst this; exact .d (DR.nil_lst .nsl)
  | @sl _ _ _ _ xx cap z hid hm hk hc hz2 hs =>
    obtain ⟨_, hbr⟩ := hH.live id _ hb
    rw [hm] at hbr
    cases hbr with | cells hbr =>
    obtain ⟨arr, et, g1, g2, g3⟩ := hbr
    have hl' := unD_ok hl
    refine .d (.lst (fun j => arr.getD (off + j) undef) hk hc (fun j hj => ⟨_, rfl, .inr ⟨id, _, hb, hm⟩, ?_⟩) (fun j c hc2 => ?_))
    · obtain ⟨rv, e1, _⟩ := cr_D (x := xx) g3 g2 hl' (List.getElem?_eq_getElem hj)
      rw [Addr.add_lit, cell_of_arr g1, Array.getD_eq_getD_getElem?, e1]; rfl
    · obtain ⟨rv, e1, e2⟩ := cr_D (x := xx) g3 g2 hl' hc2
      rw [Array.getD_eq_getD_getElem?, e1]; exact e2.mono hU (fun _ _ => rfl)
theorem BLe.var {id off : Nat} {cs : List V} {l : List D} (hb : lk h.b id = some (some (.cells cs))) (hl : unD (cs.drop off) = some l) : BLe h (.ptr id off) (.d (.lptr l)) := fun U m w r hH hv => by
  have hU : ∀ x, U x → lent U m h.b x := fun x hx => .inl hx
  cases hv with | @ptr _ _ xx hid hm =>
  obtain ⟨_, hbr⟩ := hH.live id _ hb
  rw [hm] at hbr
  cases hbr with | cells hbr =>
  obtain ⟨arr, et, g1, g2, g3⟩ := hbr
  have hl' := unD_ok hl
  have hl2 : (cs.drop off).take cs.length = l.map .d := by rw [List.take_of_length_le (by simp)]; exact hl'
  refine .d (.lptr (fun j => arr.getD (off + j) undef) (.inr ⟨id, _, hb, hm⟩) (fun j hj => ?_) (fun j c hc2 => ?_))
  · obtain ⟨rv, e1, _⟩ := cr_D (x := xx) g3 g2 hl2 (List.getElem?_eq_getElem hj)
    rw [Addr.add_lit, cell_of_arr g1, Array.getD_eq_getD_getElem?, e1]; rfl
  · obtain ⟨rv, e1, e2⟩ := cr_D (x := xx) g3 g2 hl2 hc2
    rw [Array.getD_eq_getD_getElem?, e1]; exact e2.mono hU (fun _ _ => rfl)
theorem VR.lend {r : Value} {v v' : V} (hH : HR U m h.n h.b w) (hv : VR U m h.n w v r) (l : BLe h v v') : VR (lent U m h.b) m h.n w v' r := l U m w r hH hv
mutual
/-- Without a slice or an address. -/
def V.flat : V → Bool
  | .d (.lst ..) => false
  | .d (.rows ..) => false
  | .d (.lptr ..) => false
  | .d _ => true
  | .agg cs => flatL cs
  | .tup vs => flatL vs
  | .un => true
  | _ => false
def flatL : List V → Bool
  | [] => true
  | v :: r => v.flat && flatL r
end
theorem flatL_get {l : List V} (h : flatL l = true) {j : Nat} {v : V} (hj : l[j]? = some v) : v.flat = true := by
  induction l generalizing j with
  | nil => simp at hj
  | cons x r ih =>
    simp only [flatL, Bool.and_eq_true] at h
    cases j with
    | zero => simp at hj; subst hj; exact h.1
    | succ j => exact ih h.2 (by simpa using hj)
theorem VR.flat {U' : Nat → Prop} {m' : Nat → Option Nat} {n n' : Nat} {w w' : World} {v : V} {r : Value} (h : VR U m n w v r) (hf : v.flat = true) : VR U' m' n' w' v r := by
  induction h with
  | un v => exact .un v
  | d h =>
    cases h <;> first | (simp [V.flat] at hf; done) | exact .d (by constructor <;> assumption)
  | sl => cases hf
  | sl0 => cases hf
  | nn => cases hf
  | ptr => cases hf
  | map => cases hf
  | el => cases hf
  | fn => cases hf
  | ifc => cases hf
  | agg hl h ih => simp only [V.flat] at hf; exact .agg hl (fun j x v h1 h2 => ih j x v h1 h2 (flatL_get hf h1))
  | tup hl h ih => simp only [V.flat] at hf; exact .tup hl (fun j x v h1 h2 => ih j x v h1 h2 (flatL_get hf h1))
theorem VRs.lend {as : Array Value} : ∀ {l l' : List V}, HR U m h.n h.b w → VRs U m h.n w l as → BL h l l' → VRs (lent U m h.b) m h.n w l' as := by
  intro l l' hH hV hB
  have hlen : l.length = l'.length := by
    clear hV
    induction hB with
    | nil => rfl
    | cons _ _ ih => simp [ih]
  refine ⟨by rw [← hlen]; exact hV.len, fun j x' v hx hv => ?_⟩
  have key : ∀ (l l' : List V), BL h l l' → ∀ (j : Nat) (x' : V), l'[j]? = some x' → ∃ x, l[j]? = some x ∧ BLe h x x' := by
    intro l l' hA
    induction hA with
    | nil => intro j x' hx; simp at hx
    | @cons v v' l l' h k ih =>
      intro j x' hx
      cases j with
      | zero => simp at hx; subst hx; exact ⟨v, rfl, h⟩
      | succ j => exact ih j x' (by simpa using hx)
  obtain ⟨x, h1, h2⟩ := key l l' hB j x' hx
  exact VR.lend hH (hV.at_ j x v h1 hv) h2
/-- A call of a pure function that reads what is at hand. -/
theorem Fn.callsB {f : FuncId} {args vs : List V} {rv : V} (c : Fn E f args rv) (hfl : rv.flat = true) {as : Array Value} (hH : HR U m h.n h.b w) (hV : VRs U m h.n w vs as) (hB : BL h vs args) :
    Calls E.P f as w fun e w' => ∃ R0, e = .returned R0 ∧ VR U m h.n w' rv R0 ∧ Stp h.n U m h.n h.b w U m h.n h.b w' ∧ HR U m h.n h.b w' ∧ Same0 w w' := by
  obtain ⟨hp, hpa, c⟩ := c
  have hH0 : HR (lent U m h.b) (fun _ => none) 0 [] w := ⟨fun id blk h => by simp [lk] at h, fun id blk x h => by simp [lk] at h, fun id id' blk blk' x h => by simp [lk] at h, fun x hx => hx.elim (hH.ulow x) (fun ⟨id, blk, h1, h2⟩ => (hH.ok id blk x h1 h2).2)⟩
  have hV' := hV.lend hH hB
  refine (c (lent U m h.b) (fun _ => none) w as hH0 ⟨hV'.len, fun j x v h1 h2 => (hV'.at_ j x v h1 h2).elsewhere (pureL_get hpa h1)⟩).mono fun e w' ⟨r, R0, U', m', h', e1, q, hvr, hH', st⟩ => ?_
  subst q
  have hno : ∀ x, ¬ Own (fun _ => none) [] x := by rintro x ⟨id, bk, h1, _⟩; simp [lk] at h1
  have hs : Same0 w w' := fun x hx => st.keep x hx (hno x)
  refine ⟨R0, e1, hvr.flat hfl, ?_, ?_, hs⟩
  · exact { hn := Nat.le_refl _, hm := fun _ _ => rfl, hU := fun _ h => h, size := st.size, os := st.os, tape := st.tape, output := st.output, keep := fun x hx _ => hs x hx, own := fun _ _ h => h, lim := fun x hx h => .inl h, hz := st.hz }
  · refine ⟨fun id blk h1 => ?_, fun id blk x h1 h2 => ?_, hH.inj, fun x hx => ?_⟩
    · obtain ⟨g1, g2⟩ := hH.live id blk h1
      exact ⟨g1, g2.mono (fun _ h => h) (fun x hx => hs x (hH.ulow x hx)) st.hz (Nat.le_refl _) (fun _ _ => rfl) (fun x hx => hs x (hH.ok id blk x h1 hx).2)⟩
    · obtain ⟨g1, g2⟩ := hH.ok id blk x h1 h2
      exact ⟨g1, Nat.lt_of_lt_of_le g2 st.size⟩
    · exact Nat.lt_of_lt_of_le (hH.ulow x hx) st.size
theorem callB_run {f : FuncId} {xs : Array Operand} {ats : Array TypeId} {vs : List V} (r : SR k B U m s h a w) (ho : o.op = .call { callee := .value (.func f), args := xs, argTypes := ats }) (he : Enters E f) (hv : evL s xs.toList = some vs) :
    ∃ as, (execOp a.eval o).run E.P w = .ok (.enter f as) w ∧ VRs U m h.n w vs as := call_run r ho he hv (AL.refl vs)
theorem TO.fnB {f : FuncId} {xs : Array Operand} {ats : Array TypeId} {args vs : List V} {rv : V} (ho : o.op = .call { callee := .value (.func f), args := xs, argTypes := ats })
    (c : Fn E f args rv) (he : Enters E f) (hv : evL s xs.toList = some vs) (ha : BL h vs args) (hfl : rv.flat = true) (hg : o.guard = none) (hk : dstOk o.dst k = true) (t : TO E k B ops rest (putR o.dst rv s) h Q) : TO E k B ops (o :: rest) s h Q := fun U m a w r => by
  obtain ⟨as, h1, h2⟩ := callB_run r ho he hv
  refine wpList_plain hg fun K hK => ?_
  unfold Oper.wp
  rw [h1, Oper.upon_enter]
  refine (c.callsB hfl r.heap h2 ha).mono fun e w' ⟨R0, e1, hvr, st, hH, _⟩ => ?_
  subst e1
  have r1 := r.stp st hH
  exact hK _ _ (RP.step' (st.low r.base) (t _ _ _ _ (r1.putR hk hvr)))
theorem TA.fnB {f : FuncId} {xs : Array Operand} {ats : Array TypeId} {args vs : List V} {rv : V} {g : Nat → Bool} {listed : Array Bool} (i : Nat) (hi : ops[i]? = some o) (ho : o.op = .call { callee := .value (.func f), args := xs, argTypes := ats })
    (c : Fn E f args rv) (he : Enters E f) (hv : evL s xs.toList = some vs) (ha : BL h vs args) (hfl : rv.flat = true) (hw : Wants s ops o true) (hk : dstOk o.dst k = true) (hr : Region.ready .any ops listed = [i])
    (t : TA E k B ops g n (listed.setIfInBounds i true) (putR o.dst rv s) h Q) : TA E k B ops g (n + 1) listed s h Q := fun U m a w r => by
  obtain ⟨as, h1, h2⟩ := callB_run r ho he hv
  refine ⟨(fun e => by rw [hr] at e; cases e), fun j hj => ?_⟩
  rw [hr] at hj
  simp only [List.mem_singleton] at hj
  subst hj
  unfold wpOp
  simp only [hi, r.wants hw, if_true]
  refine .inl ?_
  unfold Oper.wp
  rw [h1, Oper.upon_enter]
  refine (c.callsB hfl r.heap h2 ha).mono fun e w' ⟨R0, e1, hvr, st, hH, hs⟩ => ?_
  subst e1
  have r1 := r.stp st hH
  exact ⟨fun _ => hs, wpAnyK_mono (fun e a2 w2 q => RP_trans (st.low r.base) q) _ _ _ _ (t U m _ w' (r1.putR hk hvr))⟩
/-- What lies between two pieces of code is told. -/
theorem T.seqC {x y : Code} (s1 : Slots) (h1 : Hp) (t : T E k B x s h (fun e s' h' => e = .normal ∧ Le s' s1 ∧ h' = h1)) (u : T E k B y s1 h1 Q) : T E k B (.seq x y) s h Q :=
  T.seq (t.mono fun e s' h' ⟨e1, e2, e3⟩ => by subst e1; subst e3; exact u.le e2)
end
end Go.Proofs.Ythkoinngmcpjgaa

/-
  The logic's reckoner for what makes and writes blocks; loops round by round. Conditions: none.
-/
namespace Go.Proofs.Ythkoinngmcpjgaa
open Go.RowKit

def putN {α : Type} : Nat → List α → List α → Option (List α)
  | 0, [], l => some l
  | 0, _ :: _, [] => none
  | 0, v :: r, _ :: l => match putN 0 r l with
    | some l' => some (v :: l')
    | none => none
  | _ + 1, _, [] => none
  | n + 1, new, x :: l => match putN n new l with
    | some l' => some (x :: l')
    | none => none
theorem putN_ok : ∀ {n : Nat} {new l r : List V}, putN n new l = some r → lput l n new = r ∧ n + new.length ≤ l.length
  | 0, [], l, r, h => by simp only [putN, Option.some.injEq] at h; subst h; simp [lput]
  | 0, v :: new, [], r, h => by cases h
  | 0, v :: new, x :: l, r, h => by
    simp only [putN] at h
    split at h
    · rename_i l' h1
      injection h with h; subst h
      obtain ⟨h2, h3⟩ := putN_ok h1
      refine ⟨?_, by simp only [List.length_cons]; omega⟩
      simp only [lput, List.take_zero, List.nil_append, Nat.zero_add, List.length_cons, List.drop_succ_cons] at h2 ⊢
      rw [← h2, List.cons_append]
    · cases h
  | n + 1, new, [], r, h => by cases h
  | n + 1, new, x :: l, r, h => by
    simp only [putN] at h
    split at h
    · rename_i l' h1
      injection h with h; subst h
      obtain ⟨h2, h3⟩ := putN_ok h1
      refine ⟨?_, by simp only [List.length_cons]; omega⟩
      simp only [lput, List.take_succ_cons, List.cons_append, show n + 1 + new.length = (n + new.length) + 1 by omega, List.drop_succ_cons] at h2 ⊢
      rw [← h2]
    · cases h
def lenN {α : Type} : Nat → List α → Bool
  | 0, [] => true
  | n + 1, _ :: r => lenN n r
  | _, _ => false
theorem lenN_ok {α : Type} : ∀ {n : Nat} {l : List α}, lenN n l = true → l.length = n
  | 0, [], _ => rfl
  | 0, _ :: _, h => by cases h
  | n + 1, [], h => by cases h
  | n + 1, _ :: r, h => by simp only [List.length_cons]; rw [lenN_ok (n := n) (l := r) (by simpa [lenN] using h)]
def okL : List V → Bool
  | [] => true
  | v :: r => match cellOk v with
    | true => okL r
    | false => false
theorem okL_eq : ∀ l : List V, okL l = l.all cellOk
  | [] => rfl
  | v :: r => by simp only [okL, List.all_cons]; cases cellOk v <;> simp [okL_eq r]
def csOf : V → Option (List V)
  | .agg cs => match okL cs with
    | true => some cs
    | false => none
  | .un => none
  | .nn _ _ => none
  | .tup _ => none
  | v => some [v]
theorem csOf_ok {v : V} {l : List V} (h : csOf v = some l) : v.cs = l ∧ v.cs.all cellOk = true := by
  unfold csOf at h
  split at h
  · rename_i cs
    split at h
    · rename_i h1; injection h with h; subst h; exact ⟨rfl, by rw [← okL_eq]; exact h1⟩
    · cases h
  · cases h
  · cases h
  · cases h
  · injection h with h; subst h
    cases v <;> first | exact ⟨rfl, rfl⟩ | (exfalso; simp_all)
/-- What an operation that makes or writes comes to. -/
def actF (tab : List (Nat × Ty)) (k : Nat) (o : Oper) (s : Slots) : Hp → Option (Slots × Hp)
  | ⟨hn, hb⟩ => match o.op, o.dst with
  | .box _ x, some d => match Nat.blt d k, evO s x with
    | true, some v => match csOf v with
      | some l => some ((d, .ptr hn 0) :: s, ⟨hn + 1, (hn, some (.cells l)) :: hb⟩)
      | none => none
    | _, _ => none
  | .alloc t, some d => match Nat.blt d k, lk tab t with
    | true, some ty => match ty.zero with
      | some z => match absL z.cells.toList with
        | some l => some ((d, .ptr hn 0) :: s, ⟨hn + 1, (hn, some (.cells l)) :: hb⟩)
        | none => none
      | none => none
    | _, _ => none
  | .store t x y, none => match lk tab t, evO s x, evO s y with
    | some ty, some (.ptr id off), some v => match lk hb id, csOf v with
      | some (some (.cells bc)), some l => match lenN ty.size l, putN off l bc with
        | true, some bc' => some (s, ⟨hn, (id, some (.cells bc')) :: hb⟩)
        | _, _ => none
      | _, _ => none
    | _, _, _ => none
  | _, _ => none
section
variable {E : Env} {k B : Nat} {s s' : Slots} {h h' : Hp} {Q Q' : Post} {o : Oper} {v : V} {d : Nat} {ops : Array Oper} {rest : List Oper} {c : Code}
theorem actF_ok (h1 : actF E.tab k o s h = some (s', h')) : Ac E k B false s h o s' h' := by
  have weak : ∀ {g : Bool}, Ac E k B g s h o s' h' → Ac E k B false s h o s' h' := fun {g} y U m a w r => by
    obtain ⟨nx, a', w', U', m', e1, e2, e3, e4, _⟩ := y U m a w r
    exact ⟨nx, a', w', U', m', e1, e2, e3, e4, fun h => by cases h⟩
  obtain ⟨hn, hb'⟩ := h
  unfold actF at h1
  dsimp only at h1
  split at h1
  · rename_i t x d ho hd
    split at h1
    · rename_i v hk hx
      split at h1
      · rename_i l hl
        injection h1 with h1
        simp only [Prod.mk.injEq] at h1
        obtain ⟨rfl, rfl⟩ := h1
        obtain ⟨e1, e2⟩ := csOf_ok hl
        subst e1
        exact weak (Ac.box ho hd hk hx e2 rfl)
      · cases h1
    · cases h1
  · rename_i t d ho hd
    split at h1
    · rename_i ty hk ht
      obtain ⟨td, tz, tb, tr⟩ := ty
      dsimp only at h1
      cases tr with
      | none => cases h1
      | some z =>
        dsimp only at h1
        split at h1
        · rename_i l hl
          injection h1 with h1
          simp only [Prod.mk.injEq] at h1
          obtain ⟨rfl, rfl⟩ := h1
          exact weak (Ac.alloc ho hd hk ht rfl hl rfl)
        · cases h1
    · cases h1
  · rename_i t x y ho hd
    split at h1
    · rename_i ty id off v ht hx hy
      obtain ⟨td, tz, tb, tr⟩ := ty
      dsimp only at h1
      split at h1
      · rename_i bc l hb hl
        split at h1
        · rename_i bc' hz hp
          injection h1 with h1
          simp only [Prod.mk.injEq] at h1
          obtain ⟨rfl, rfl⟩ := h1
          obtain ⟨e1, e2⟩ := csOf_ok hl
          subst e1
          obtain ⟨e3, e4⟩ := putN_ok hp
          rw [← e3]
          exact Ac.store ho hd ht hx hb hy e2 (by rw [lenN_ok hz]; exact Nat.beq_refl _) (Nat.ble_eq_true_of_le e4)
        · cases h1
      · cases h1
    · cases h1
  · cases h1
/-- As many as there are, of both kinds. -/
def runG (tab : List (Nat × Ty)) (k : Nat) : List Oper → Slots → Hp → List Oper × Slots × Hp
  | [], s, h => ([], s, h)
  | o :: r, s, h => match o.guard with
    | none => match stepF tab k o s h.b with
      | some s' => runG tab k r s' h
      | none => match actF tab k o s h with
        | some (s1, h1) => runG tab k r s1 h1
        | none => (o :: r, s, h)
    | some _ => (o :: r, s, h)
theorem TO.runAll (l : List Oper) {l' : List Oper} {s' : Slots} {h' : Hp} (hr : runG E.tab k l s h = (l', s', h')) (t : TO E k B ops l' s' h' Q) : TO E k B ops l s h Q := by
  induction l generalizing s h with
  | nil =>
    simp only [runG, Prod.mk.injEq] at hr
    obtain ⟨rfl, rfl, rfl⟩ := hr
    exact t
  | cons o r ih =>
    simp only [runG] at hr
    split at hr
    · rename_i hg
      split at hr
      · rename_i s2 h2
        unfold stepF at h2
        split at h2
        · rename_i d hg hd
          split at h2
          · rename_i hk
            split at h2
            · rename_i v hv
              injection h2 with h2; subst h2
              exact TO.yl hg hd hk (yieldF_ok hv) (ih hr)
            · cases h2
          · cases h2
        · cases h2
      · split at hr
        · rename_i s1 h1 hp
          exact TO.ac hg (actF_ok hp) (ih hr)
        · simp only [Prod.mk.injEq] at hr
          obtain ⟨rfl, rfl, rfl⟩ := hr
          exact t
    · simp only [Prod.mk.injEq] at hr
      obtain ⟨rfl, rfl, rfl⟩ := hr
      exact t
theorem TO.actG {s1 : Slots} {h1 : Hp} (hg : o.guard = none) (e1 : actF E.tab k o s h = some (s1, h1)) {l' : List Oper} {s' : Slots} {h' : Hp} (hr : runG E.tab k rest s1 h1 = (l', s', h')) (t : TO E k B ops l' s' h' Q) : TO E k B ops (o :: rest) s h Q :=
  TO.ac hg (actF_ok e1) (TO.runAll rest hr t)
theorem TO.step1 {s1 : Slots} (h2 : stepF E.tab k o s h.b = some s1) (t : TO E k B ops rest s1 h Q) : TO E k B ops (o :: rest) s h Q := by
  unfold stepF at h2
  split at h2
  · rename_i d hg hd
    split at h2
    · rename_i hk
      split at h2
      · rename_i v hv
        injection h2 with h2; subst h2
        exact TO.yl hg hd hk (yieldF_ok hv) t
      · cases h2
    · cases h2
  · cases h2
theorem TO.stepG {s1 : Slots} (e1 : stepF E.tab k o s h.b = some s1) {l' : List Oper} {s' : Slots} {h' : Hp} (hr : runG E.tab k rest s1 h = (l', s', h')) (t : TO E k B ops l' s' h' Q) : TO E k B ops (o :: rest) s h Q :=
  TO.step1 e1 (TO.runAll rest hr t)
/-- A loop, round by round. -/
def TR (E : Env) (k B : Nat) (c : Code) (n : Nat) (s : Slots) (h : Hp) (Q : Post) : Prop :=
  ∀ U m a w, SR k B U m s h a w → Code.rounds E.P c (RP k B U m h w Q) n a w
theorem TR.succ {n : Nat} (t : T E k B c s h (thenP (fun s' h' => TR E k B c n s' h' Q) Q)) : TR E k B c (n + 1) s h Q := fun U m a w r => by
  rw [rounds_succ]
  refine wp_mono (t U m a w r) fun e a' w' ⟨U', m', s', h', q, r', st⟩ => ?_
  cases e with
  | normal => exact rounds_mono (fun e a2 w2 q2 => RP_trans st q2) _ _ _ (q U' m' a' w' r')
  | _ => exact ⟨U', m', s', h', q, r', st⟩
theorem T.rounds (n : Nat) (t : TR E k B c n s h Q) : T E k B (.loop c) s h Q := fun U m a w r => wp_loop_rounds n (t U m a w r)
theorem TR.le {n : Nat} (t : TR E k B c n s' h Q) (hl : Le s s') : TR E k B c n s h Q := fun U m a w r => t U m a w (r.le hl)
end
end Go.Proofs.Ythkoinngmcpjgaa

/-
  The logic's rule for entering a function whose results may lie in memory. Conditions: none.
-/
namespace Go.Proofs.Ythkoinngmcpjgaa
open Go.RowKit

/-- A result. -/
def res1 (tab : List (Nat × Ty)) (s : Slots) (b : Heap) : ResultVar → Option V
  | .tmp t => lk s t
  | .cell t ty => match lk s t with
    | some v => loadF tab b ty v
    | none => none
def resL (tab : List (Nat × Ty)) (s : Slots) (b : Heap) : List ResultVar → Option (List V)
  | [] => some []
  | x :: r => match res1 tab s b x, resL tab s b r with
    | some v, some l => some (v :: l)
    | _, _ => none
def resC (tab : List (Nat × Ty)) (s : Slots) (b : Heap) : List ResultVar → Option V
  | [x] => res1 tab s b x
  | l => match resL tab s b l with
    | some vs => some (.tup vs)
    | none => none
def tupR : List Value → Value
  | [v] => v
  | vs => .tuple vs.toArray
/-- A function's end. -/
def FinC (E : Env) (rs : List ResultVar) (Q : V → Hp → Prop) : Post := fun e s h => (e = .normal ∨ e = .ret) ∧ ∃ r, resC E.tab s h.b rs = some r ∧ Q r h
section
variable {E : Env} {k B : Nat} {s s' : Slots} {h h' : Hp} {Q Q' : Post} {U : Nat → Prop} {m : Nat → Option Nat} {a : Act} {w w' : World}
theorem FinC.ret {rs : List ResultVar} {Q : V → Hp → Prop} {r : V} (hr : resC E.tab s h.b rs = some r) (q : Q r h) : FinC E rs Q .ret s h := ⟨.inr rfl, r, hr, q⟩
theorem FinC.normal {rs : List ResultVar} {Q : V → Hp → Prop} {r : V} (hr : resC E.tab s h.b rs = some r) (q : Q r h) : FinC E rs Q .normal s h := ⟨.inl rfl, r, hr, q⟩
theorem FinC.noPanic {rs : List ResultVar} {R : V → Hp → Prop} : NoPanic (FinC E rs R) := fun c s h q => by
  obtain ⟨e, _⟩ := q
  rcases e with e | e <;> cases e
theorem res1_run (r : SR k B U m s h a w) {x : ResultVar} {v : V} (hx : res1 E.tab s h.b x = some v) : ∃ rv, VR U m h.n w v rv ∧ ((match x with | .tmp t => pure (a.tmps.getD t undef) | .cell t ty => do loadVar ty (← asAddr (a.tmps.getD t undef)) : Sem Value)).run E.P w = .ok rv w := by
  cases x with
  | tmp t => exact ⟨_, r.tmp hx, rfl⟩
  | cell t ty =>
    simp only [res1] at hx
    split at hx
    · rename_i u hu
      have y := loadF_ok (E := E) (k := k) (B := B) (s := s) (h := h) (o := { dst := none, op := .load ty (.tmp t), type := 0, pos := "", after := #[], guard := none }) rfl (x := .tmp t) hu hx
      obtain ⟨rv, h1, h2⟩ := y U m a w r
      refine ⟨rv, h1, ?_⟩
      have h3 := h2 w (fun _ => .refl w)
      simp only [execOp] at h3
      have hv := r.tmp hu
      generalize hve : a.eval (.tmp t) = pv at h3 hv
      have hve' : a.tmps.getD t undef = pv := hve
      have key : ∀ ad, pv = .pointer (some ad) → (do loadVar ty (← asAddr (a.tmps.getD t undef)) : Sem Value).run E.P w = .ok rv w := fun ad e => by
        subst e
        rw [hve']
        simp only [Instr.loadAt, Instr.sureAddr, Sem.run_bind, Sem.run_pure, Result.andThen_ok, asAddr] at h3 ⊢
        cases hl : (loadVar ty ad).run E.P w with
        | ok x w2 => rw [hl] at h3; simp only [Result.andThen_ok, Result.ok.injEq, Next.value.injEq] at h3; obtain ⟨rfl, rfl⟩ := h3; rfl
        | halt x w2 => rw [hl] at h3; cases h3
      unfold loadF at hx
      split at hx
      · cases hv; exact key _ rfl
      · cases hv with | d hv => cases hv; exact key _ rfl
      · cases hx
    · cases hx
theorem resL_run (r : SR k B U m s h a w) : ∀ (rs : List ResultVar) (l : List V), resL E.tab s h.b rs = some l → ∃ vs : List Value, PW (VR U m h.n w) l vs ∧
    (rs.mapM (fun | .tmp t => pure (a.tmps.getD t undef) | .cell t ty => do loadVar ty (← asAddr (a.tmps.getD t undef)) : ResultVar → Sem Value)).run E.P w = .ok vs w
  | [], l, hl => by simp only [resL, Option.some.injEq] at hl; subst hl; exact ⟨[], ⟨rfl, fun j c v h => by simp at h⟩, rfl⟩
  | x :: rs, l, hl => by
    simp only [resL] at hl
    split at hl
    · rename_i v l' h1 h2
      injection hl with hl; subst hl
      obtain ⟨rv, g1, g2⟩ := res1_run r h1
      obtain ⟨vs, g3, g4⟩ := resL_run r rs l' h2
      refine ⟨rv :: vs, ⟨by simp [g3.len], fun j c u hc hu => ?_⟩, ?_⟩
      · cases j with
        | zero => simp at hc hu; subst hc; subst hu; exact g1
        | succ j => exact g3.at_ j c u (by simpa using hc) (by simpa using hu)
      · rw [List.mapM_cons, Sem.run_bind]
        cases x <;> (dsimp only at g2 ⊢; rw [g2]; simp only [Result.andThen_ok, Sem.run_bind, g4, Sem.run_pure])
    · cases hl
theorem mapM_match {P : Program} {w : World} {g g' : ResultVar → Sem Value} (hg : ∀ x, (g x) = (g' x)) (rs : List ResultVar) : (rs.mapM g).run P w = (rs.mapM g').run P w := by
  have : g = g' := funext hg
  rw [this]
theorem resC_run (r : SR k B U m s h a w) {fn : Func} {rs : List ResultVar} (hr : fn.results = rs.toArray) {rv : V} (hx : resC E.tab s h.b rs = some rv) : ∃ x, VR U m h.n w rv x ∧ (results fn a.tmps).run E.P w = .ok x w := by
  have key : ∀ vs : List Value, (rs.mapM (fun | .tmp t => pure (a.tmps.getD t undef) | .cell t ty => do loadVar ty (← asAddr (a.tmps.getD t undef)) : ResultVar → Sem Value)).run E.P w = .ok vs w → (results fn a.tmps).run E.P w = .ok (tupR vs) w := fun vs hv => by
    unfold results
    rw [hr, Array.mapM_eq_mapM_toList, map_eq_pure_bind, Sem.run_bind, Sem.run_bind]
    rw [mapM_match (g' := fun | .tmp t => pure (a.tmps.getD t undef) | .cell t ty => do loadVar ty (← asAddr (a.tmps.getD t undef))) (fun x => by cases x <;> rfl), hv]
    simp only [Result.andThen_ok, Sem.run_pure]
    match vs with
    | [] => rfl
    | [v] => rfl
    | v :: u :: l => simp [tupR]
  match rs, hx with
  | [x], hx =>
    obtain ⟨v, g1, g2⟩ := res1_run r hx
    refine ⟨v, g1, key [v] ?_⟩
    rw [List.mapM_cons, Sem.run_bind]
    cases x <;> (dsimp only at g2 ⊢; rw [g2]; rfl)
  | [], hx =>
    simp only [resC, resL, Option.some.injEq] at hx; subst hx
    exact ⟨.tuple #[], .tup rfl (fun j c v h => by simp at h), key [] rfl⟩
  | x :: y :: l, hx =>
    simp only [resC] at hx
    split at hx
    · rename_i vs hvs
      injection hx with hx; subst hx
      obtain ⟨rvs, g1, g2⟩ := resL_run r _ _ hvs
      have hlen : rvs.length = (x :: y :: l).length := by
        have : ∀ (rs : List ResultVar) (l : List V), resL E.tab s h.b rs = some l → l.length = rs.length := by
          intro rs
          induction rs with
          | nil => intro l hl; simp only [resL, Option.some.injEq] at hl; subst hl; rfl
          | cons x rs ih =>
            intro l hl
            simp only [resL] at hl
            split at hl
            · rename_i v l' h1 h2; injection hl with hl; subst hl; simp [ih l' h2]
            · cases hl
        rw [← g1.len, this _ _ hvs]
      refine ⟨_, ?_, key rvs g2⟩
      match rvs, hlen with
      | v :: u :: r2, _ => exact .tup (by simpa using g1.len) (fun j c z hc hz => g1.at_ j c z hc (by simpa using hz))
    · cases hx
/-- A function is entered. -/
theorem Call.enterC {f : FuncId} {fn : Func} {c : Code} {nt : Nat} {rs : List ResultVar} {args : List V} {R : V → Hp → Prop} (hf : E.P.funcs[f]? = some fn) (hb : fn.body = some c) (hnt : fn.ntmps = nt) (hle : Nat.ble args.length nt = true) (hres : fn.results = rs.toArray)
    (t : T E nt h.n c (argS 0 args) h (FinC E rs R)) : Call E f args h R := fun U m w vs hH hV => by
  have hle' := Nat.le_of_ble_eq_true hle
  have hlen := hV.len
  have r0 : SR nt h.n U m (argS 0 args) h { tmps := vs ++ Array.replicate (fn.ntmps - vs.size) undef, defers := [] } w := by
    refine ⟨fun t v hv => ?_, ?_, rfl, hH, Nat.le_refl _⟩
    · obtain ⟨_, h1⟩ := argS_get args 0 t v hv
      have ht : t < vs.size := by rw [← hlen]; exact (List.getElem?_eq_some_iff.1 h1).1
      exact ⟨vs[t], by simp [Array.getElem?_append, ht], hV.at_ t v _ h1 (by simp [ht])⟩
    · simp only [Array.size_append, Array.size_replicate]; omega
  refine calls_of_wp hf hb (wp_mono (t U m _ w r0) fun e a' w' ⟨U', m', s', h', q, r1, st⟩ => ?_)
  obtain ⟨he, rv, hrv, hq⟩ := q
  obtain ⟨x, g1, g2⟩ := resC_run r1 hres hrv
  have : a'.defers = [] ∧ ∃ v, (results fn a'.tmps).run E.P w' = .ok v w' ∧ ∃ r R0 U' m' h', (Ending.returned v : Ending) = .returned R0 ∧ R r h' ∧ VR U' m' h'.n w' r R0 ∧ HR U' m' h'.n h'.b w' ∧ Stp h.n U m h.n h.b w U' m' h'.n h'.b w' :=
    ⟨r1.defers, x, g2, rv, _, U', m', h', rfl, hq, g1, r1.heap, st⟩
  rcases he with rfl | rfl <;> exact this
/-- A pure function, by its walk. -/
theorem Fn.enter {f : FuncId} {fn : Func} {c : Code} {nt : Nat} {rs : List ResultVar} {args : List V} {r : V} (hf : E.P.funcs[f]? = some fn) (hb : fn.body = some c) (hnt : fn.ntmps = nt) (hle : Nat.ble args.length nt = true) (hres : fn.results = rs.toArray) (hp : r.pure = true) (ha : pureL args = true)
    (t : T E nt 0 c (argS 0 args) ⟨0, []⟩ (FinC E rs (fun r' _ => r' = r))) : Fn E f args r := ⟨hp, ha, Call.enterC (h := ⟨0, []⟩) hf hb hnt hle hres t⟩
theorem FinC.eq {rs : List ResultVar} {r r' : V} (hr : resC E.tab s h.b rs = some r') (e : r' = r) : FinC E rs (fun r' _ => r' = r) .ret s h := FinC.ret hr e
theorem FinC.eqN {rs : List ResultVar} {r r' : V} (hr : resC E.tab s h.b rs = some r') (e : r' = r) : FinC E rs (fun r' _ => r' = r) .normal s h := FinC.normal hr e
end
end Go.Proofs.Ythkoinngmcpjgaa

/-
  What a law is handed, opened: an argument that reads as data of a type is symbolic data of that type; what the logic says of a function is a walk. Conditions: none.
-/
namespace Go.Proofs.Ythkoinngmcpjgaa
open Go.RowKit Go.WideShapes Go.ChangeShapes

def OfFs (p : TypeId → List D → Prop) : List Field → List D → Prop
  | [], cs => cs = []
  | f :: fs, cs => ∃ a b, cs = a ++ b ∧ p f.type a ∧ OfFs p fs b
/-- Data of a type. -/
def OfT (tab : List (Nat × Ty)) : Nat → TypeId → List D → Prop
  | 0, _, _ => False
  | d + 1, t, cs => match lk tab t with
    | none => False
    | some ty => match ty.d with
      | .bool => ∃ b, cs = [.bool b]
      | .int k => ∃ n, cs = [.int k n] ∧ (Lit.int k n).wf = true
      | .string => ∃ s, cs = [.str s] ∧ s.size ≤ maxLen
      | .slice e => ∃ l : List (List D), l.length ≤ maxLen ∧ cs = [.lst l.length l.flatten] ∧ ∀ x ∈ l, OfT tab d e x
      | .struct fs => OfFs (OfT tab d) fs.toList cs
      | .array n e => ∃ l : List (List D), l.length = n ∧ cs = l.flatten ∧ ∀ x ∈ l, OfT tab d e x
      | _ => False
def sizeT (tab : List (Nat × Ty)) (t : TypeId) : Nat := match lk tab t with | some ty => ty.size | none => 0
def okFs (tab : List (Nat × Ty)) (p : TypeId → Bool) : List Field → Nat → Nat → Bool
  | [], o, z => o == z
  | f :: fs, o, z => (f.offset == o && p f.type) && okFs tab p fs (o + sizeT tab f.type) z
/-- The type is laid out so that this text can open it. -/
def okT (tab : List (Nat × Ty)) : Nat → TypeId → Bool
  | 0, _ => false
  | d + 1, t => match lk tab t with
    | none => false
    | some ty => match ty.d with
      | .bool => ty.size == 1
      | .int _ => ty.size == 1
      | .string => ty.size == 1
      | .slice e => ty.size == 1 && (okT tab d e && Nat.blt 0 (sizeT tab e))
      | .struct fs => okFs tab (okT tab d) fs.toList 0 ty.size
      | .array n e => okT tab d e && ty.size == n * sizeT tab e
      | _ => false
/-- Cells that data tell of. -/
structure DL (U : Nat → Prop) (w : World) (ds : List D) (cs : List Value) : Prop where
  len : ds.length = cs.length
  at_ : ∀ (j : Nat) (c : D) (v : Value), ds[j]? = some c → cs[j]? = some v → DR U w c v
theorem DL.one {U : Nat → Prop} {w : World} {c : D} {v : Value} (h : DR U w c v) : DL U w [c] [v] :=
  ⟨rfl, fun j c' v' h1 h2 => by
    cases j with
    | zero => simp at h1 h2; subst h1; subst h2; exact h
    | succ j => simp at h1⟩
theorem DL.nil {U : Nat → Prop} {w : World} : DL U w [] [] := ⟨rfl, fun j c v h => by simp at h⟩
theorem DL.app {U : Nat → Prop} {w : World} {a b : List D} {x y : List Value} (h : DL U w a x) (k : DL U w b y) : DL U w (a ++ b) (x ++ y) := by
  refine ⟨by simp [h.len, k.len], fun j c v h1 h2 => ?_⟩
  by_cases hj : j < a.length
  · rw [List.getElem?_append_left hj] at h1
    rw [List.getElem?_append_left (by rw [← h.len]; exact hj)] at h2
    exact h.at_ j c v h1 h2
  · rw [List.getElem?_append_right (by omega)] at h1
    rw [List.getElem?_append_right (by rw [← h.len]; omega), ← h.len] at h2
    exact k.at_ _ c v h1 h2
theorem flatten_len {α : Type} {e : Nat} : ∀ (l : List (List α)), (∀ x ∈ l, x.length = e) → l.flatten.length = l.length * e
  | [], _ => by simp
  | x :: l, h => by
    rw [List.flatten_cons, List.length_append, flatten_len l (fun y hy => h y (List.mem_cons_of_mem _ hy)), h x List.mem_cons_self, List.length_cons, Nat.add_mul, Nat.one_mul, Nat.add_comm]
theorem flatten_get {α : Type} {e : Nat} (he : 0 < e) : ∀ (l : List (List α)), (∀ x ∈ l, x.length = e) → ∀ (j : Nat), l.flatten[j]? = (l[j / e]?).bind (·[j % e]?)
  | [], _, j => by simp
  | x :: l, h, j => by
    have hx := h x List.mem_cons_self
    rw [List.flatten_cons]
    by_cases hj : j < e
    · rw [List.getElem?_append_left (by omega), Nat.div_eq_of_lt hj, Nat.mod_eq_of_lt hj]; rfl
    · rw [List.getElem?_append_right (by omega), flatten_get he l (fun y hy => h y (List.mem_cons_of_mem _ hy)), hx]
      obtain ⟨i, rfl⟩ : ∃ i, j = i + e := ⟨j - e, by omega⟩
      rw [Nat.add_sub_cancel, Nat.add_div_right _ he, Nat.add_mod_right, List.getElem?_cons_succ]
section
variable {H : Type} {enc : TypeId × Value → H} {E : Env} {w : World} {base : Nat} {spare : Nat → Bool} {held : Bool} {U : Nat → Prop}
theorem cells_size {t : TypeId} {ty : Ty} (h : lk E.tab t = some ty) : E.P.cellsOf t = ty.size := by
  obtain ⟨_, i, h1, h2, _⟩ := E.ok t ty h
  simp [Program.cellsOf, h1, h2]
theorem cells_sizeT {t : TypeId} {n d : Nat} (h : okT E.tab d t = true) (hn : sizeT E.tab t = n) : E.P.cellsOf t = n := by
  cases d with
  | zero => simp [okT] at h
  | succ d =>
    unfold okT at h
    unfold sizeT at hn
    split at h
    · cases h
    · rename_i ty hl
      rw [hl] at hn
      rw [cells_size hl]; exact hn
theorem row_open {p : List D → Prop} {e : Nat} (l : List Value) (n : Nat) (hl : l.length = n * e) (h : ∀ i, i < n → ∃ ds, p ds ∧ DL U w ds ((l.drop (i * e)).take e)) :
    ∃ ls : List (List D), ls.length = n ∧ (∀ x ∈ ls, p x) ∧ DL U w ls.flatten l := by
  induction n generalizing l with
  | zero => exact ⟨[], rfl, by simp, by simp at hl; subst hl; exact .nil⟩
  | succ n ih =>
    obtain ⟨d0, h1, h2⟩ := h 0 (by omega)
    obtain ⟨ls, h3, h4, h5⟩ := ih (l.drop e) (by rw [List.length_drop, hl, Nat.add_mul]; omega) (fun i hi => by
      obtain ⟨ds, h6, h7⟩ := h (i + 1) (by omega)
      exact ⟨ds, h6, by rwa [List.drop_drop, Nat.add_comm, ← Nat.succ_mul]⟩)
    refine ⟨d0 :: ls, by simp [h3], fun x hx => ?_, ?_⟩
    · rcases List.mem_cons.1 hx with rfl | hx
      · exact h1
      · exact h4 x hx
    · rw [List.flatten_cons, ← List.take_append_drop e l]
      simp only [Nat.zero_mul, List.drop_zero] at h2
      exact h2.app h5
theorem fs_open {d : Nat} (cs : List Value) (hp : ∀ t, okT E.tab d t = true → ∀ n cs' x, DataW.trod enc E.P w base spare held n t cs' = some x → ∃ ds, OfT E.tab d t ds ∧ DL U w ds cs') (fuel : Nat) :
    ∀ (fs : List Field) (o : Nat), okFs E.tab (okT E.tab d) fs o cs.length = true → (∀ f ∈ fs, ∃ x, DataW.trod enc E.P w base spare held fuel f.type ((cs.drop f.offset).take (E.P.cellsOf f.type)) = some x) →
      ∃ ds, OfFs (OfT E.tab d) fs ds ∧ DL U w ds (cs.drop o)
  | [], o, h, _ => ⟨[], rfl, by
      simp [okFs] at h; subst h; simp; exact .nil⟩
  | f :: fs, o, h, hx => by
    simp only [okFs, Bool.and_eq_true, beq_iff_eq] at h
    obtain ⟨⟨h1, h2⟩, h3⟩ := h
    obtain ⟨x, hx1⟩ := hx f List.mem_cons_self
    obtain ⟨a, ha, hda⟩ := hp _ h2 _ _ _ hx1
    obtain ⟨b, hb, hdb⟩ := fs_open cs hp fuel fs _ h3 (fun g hg => hx g (List.mem_cons_of_mem _ hg))
    rw [h1, cells_sizeT h2 rfl] at hda
    refine ⟨a ++ b, ⟨a, b, rfl, ha, hb⟩, ?_⟩
    have := hda.app hdb
    rwa [← List.drop_drop, List.take_append_drop] at this
theorem trod_open (hU : ∀ x, x < w.heap.size → U x) : ∀ (d : Nat) (t : TypeId), okT E.tab d t = true → ∀ (fuel : Nat) (cs : List Value) (x : DataW H × List MemPlace), DataW.trod enc E.P w base spare held fuel t cs = some x →
    ∃ ds, OfT E.tab d t ds ∧ DL U w ds cs := by
  intro d
  induction d with
  | zero => intro t h; simp [okT] at h
  | succ d ih =>
    intro t hok fuel cs x h
    unfold okT at hok
    split at hok
    · cases hok
    · rename_i ty hl
      have hu : E.P.underlying t = some ty.d := (E.ok t ty hl).1
      simp only [OfT, hl]
      cases hd : ty.d <;> simp only [hd] at hok hu ⊢ <;> try (cases hok; done)
      case bool =>
        obtain ⟨b, rfl, _⟩ := DataW.trod_bool hu h
        exact ⟨[.bool b], ⟨b, rfl⟩, .one (.bool b)⟩
      case int k =>
        obtain ⟨n, rfl, _, hw⟩ := DataW.trod_int hu h
        exact ⟨[.int k n], ⟨n, rfl, hw⟩, .one (.int k n (by simpa [Lit.wf, inR] using hw))⟩
      case string =>
        obtain ⟨n, rfl, _, hw⟩ := DataW.trod_string hu h
        exact ⟨[.str n], ⟨n, rfl, hw⟩, .one (.str n hw)⟩
      case slice e =>
        simp only [Bool.and_eq_true, beq_iff_eq] at hok
        obtain ⟨_, ho, hz⟩ := hok
        have hz := Nat.le_of_ble_eq_true hz
        rcases Deep.open_slice hu h with ⟨rfl, _⟩ | ⟨a, len, cap, m, n, D', Pl, rfl, _, hlc, hm, hmm, _, hi⟩
        · exact ⟨[.lst 0 []], ⟨[], by simp, rfl, by simp⟩, .one DR.nsl.nil_lst⟩
        · have hce := cells_sizeT (E := E) ho rfl
          have hlm : len ≤ m := by rw [hmm]; split <;> omega
          have hF : ∀ i, ∃ ds, i < len → OfT E.tab d e ds ∧ ds.length = sizeT E.tab e ∧ ∀ r c, ds[r]? = some c → ∃ v, w.cell? ((a.add (i * sizeT E.tab e)).add r) = some v ∧ DR U w c v := fun i => by
            by_cases hil : i < len
            · obtain ⟨cs', hc, ht⟩ := hi i (by omega)
              obtain ⟨_, hcl, hat⟩ := World.cells?_some hc
              obtain ⟨ds, h1, h2⟩ := ih e ho _ _ _ ht
              refine ⟨ds, fun _ => ⟨h1, by rw [h2.len, hcl, hce], fun r c hr => ?_⟩⟩
              have hrl : r < ds.length := (List.getElem?_eq_some_iff.1 hr).1
              have hrc : r < cs'.length := by rw [← h2.len]; exact hrl
              refine ⟨cs'[r], ?_, h2.at_ r c _ hr (List.getElem?_eq_getElem hrc)⟩
              rw [← hce]
              rw [hat r (by omega), List.getElem?_eq_getElem hrc]
            · exact ⟨[], fun h => absurd h hil⟩
          obtain ⟨F, hF⟩ := Classical.axiomOfChoice hF
          have hlen : ∀ x ∈ (List.range len).map F, x.length = sizeT E.tab e := fun x hx => by
            obtain ⟨i, hi', rfl⟩ := List.mem_map.1 hx
            exact (hF i (List.mem_range.1 hi')).2.1
          have hat : ∀ (j : Nat) (c : D), ((List.range len).map F).flatten[j]? = some c → ∃ v, w.cell? (a.add j) = some v ∧ DR U w c v := fun j c hj => by
            rw [flatten_get hz _ hlen] at hj
            obtain ⟨y, h1, h2⟩ := Option.bind_eq_some_iff.1 hj
            rw [List.getElem?_map] at h1
            obtain ⟨i, h3, rfl⟩ := Option.map_eq_some_iff.1 h1
            obtain ⟨h4, h5⟩ := List.getElem?_eq_some_iff.1 h3
            simp only [List.length_range] at h4
            simp only [List.getElem_range] at h5
            subst h5
            have := (hF _ h4).2.2 _ c h2
            rwa [Deep.add_add, Nat.div_add_mod'] at this
          refine ⟨[.lst len ((List.range len).map F).flatten], ⟨(List.range len).map F, by simp; omega, by simp, fun x hx => ?_⟩, .one (.lst (fun j => (w.cell? (a.add j)).getD undef) hlc hm (fun j hj => ?_) (fun j c hj => ?_))⟩
          · obtain ⟨i, hi', rfl⟩ := List.mem_map.1 hx
            exact (hF i (List.mem_range.1 hi')).1
          · obtain ⟨v, h1, _⟩ := hat j _ (List.getElem?_eq_getElem hj)
            exact ⟨a, rfl, hU _ (by rw [← add_block a j]; exact World.block_lt_of_cell? w _ h1), by rw [h1]; rfl⟩
          · obtain ⟨v, h1, h2⟩ := hat j c hj
            rw [h1]; exact h2
      case struct fs =>
        obtain ⟨xs, n, _, _, hcl, hlen, hf⟩ := DataW.trod_struct hu h
        rw [cells_size hl] at hcl
        rw [← hcl] at hok
        obtain ⟨ds, h1, h2⟩ := fs_open (U := U) cs ih n fs.toList 0 hok (fun f hf' => by
          obtain ⟨i, hi, rfl⟩ := List.getElem_of_mem hf'
          have hi' : i < fs.size := by simpa using hi
          have := hf i fs[i] (by simp [hi'])
          rw [List.getElem?_eq_getElem (by omega)] at this
          exact ⟨_, by simpa using this⟩)
        exact ⟨ds, h1, h2⟩
      case array n e =>
        simp only [Bool.and_eq_true, beq_iff_eq] at hok
        obtain ⟨xs, m, _, _, hcl, hlen, hf⟩ := DataW.trod_array hu h
        have hce := cells_sizeT (E := E) hok.1 rfl
        rw [cells_size hl, hok.2] at hcl
        obtain ⟨ls, h1, h2, h3⟩ := row_open (U := U) (w := w) (p := OfT E.tab d e) cs n hcl (fun i hi => by
          have := hf i hi
          rw [List.getElem?_eq_getElem (by omega), hce] at this
          exact ih e hok.1 _ _ _ this)
        exact ⟨ls.flatten, ⟨ls, h1, rfl, h2⟩, h3⟩
/-- A value of a type. -/
def OfV (tab : List (Nat × Ty)) (d : Nat) (t : TypeId) (x : V) : Prop := match lk tab t with
  | none => False
  | some ty => match ty.d with
    | .struct _ => ∃ ds, x = .agg (ds.map .d) ∧ OfT tab d t ds
    | .array _ _ => ∃ ds, x = .agg (ds.map .d) ∧ OfT tab d t ds
    | _ => ∃ c, x = .d c ∧ OfT tab d t [c]
def OfVs (tab : List (Nat × Ty)) (d : Nat) : List TypeId → List V → Prop
  | [], xs => xs = []
  | t :: ts, xs => ∃ x r, xs = x :: r ∧ OfV tab d t x ∧ OfVs tab d ts r
theorem DL.aggV {n : Nat} {m : Nat → Option Nat} {ds : List D} {cs : Array Value} (h : DL U w ds cs.toList) : VR U m n w (.agg (ds.map .d)) (.agg cs) := by
  refine .agg (by simp [h.len]) (fun j c v h1 h2 => ?_)
  rw [List.getElem?_map] at h1
  obtain ⟨x, h3, rfl⟩ := Option.map_eq_some_iff.1 h1
  exact .d (h.at_ j x v h3 (by rw [Array.getElem?_toList]; exact h2))
theorem DL.oneV {n : Nat} {m : Nat → Option Nat} {ds : List D} {v : Value} {p : List D → Prop} (hp : p ds) (h : DL U w ds [v]) : ∃ c, p [c] ∧ VR U m n w (.d c) v := by
  obtain ⟨c, rfl⟩ : ∃ c, ds = [c] := by
    match ds, h.len with
    | [c], _ => exact ⟨c, rfl⟩
  exact ⟨c, hp, .d (h.at_ 0 c v rfl rfl)⟩
theorem arg_open (hU : ∀ x, x < w.heap.size → U x) {n d : Nat} {m : Nat → Option Nat} {t : TypeId} {v : Value} {r : Reach} {b0 : Nat} {dd : DataW H} {ps : List MemPlace} (hok : okT E.tab d t = true) (hval : Value.okWide E.P w r b0 t v) (h : DataW.Trod enc E.P w base spare held t v dd ps) :
    ∃ x, OfV E.tab d t x ∧ VR U m n w x v := by
  obtain ⟨fuel, h⟩ := h
  obtain ⟨ds, h1, h2⟩ := trod_open (U := U) hU d t hok fuel _ _ h
  have hk := hok
  cases d with
  | zero => simp [okT] at hk
  | succ d =>
    unfold okT at hk
    unfold OfV
    split at hk
    · cases hk
    · rename_i ty hl
      have hu : E.P.underlying t = some ty.d := (E.ok t ty hl).1
      cases hd : ty.d <;> simp only [hd] at hk hu <;> try (cases hk; done)
      case bool =>
        obtain ⟨b, rfl⟩ := okWide_bool hu hval
        obtain ⟨c, h3, h4⟩ := DL.oneV (n := n) (m := m) h1 h2
        exact ⟨.d c, ⟨c, rfl, h3⟩, h4⟩
      case int k =>
        obtain ⟨b, rfl⟩ := okWide_int hu hval
        obtain ⟨c, h3, h4⟩ := DL.oneV (n := n) (m := m) h1 h2
        exact ⟨.d c, ⟨c, rfl, h3⟩, h4⟩
      case string =>
        obtain ⟨b, rfl⟩ := okWide_string hu hval
        obtain ⟨c, h3, h4⟩ := DL.oneV (n := n) (m := m) h1 h2
        exact ⟨.d c, ⟨c, rfl, h3⟩, h4⟩
      case slice e =>
        obtain ⟨a, len, cap, rfl⟩ := okWide_slice hu hval
        obtain ⟨c, h3, h4⟩ := DL.oneV (n := n) (m := m) h1 h2
        exact ⟨.d c, ⟨c, rfl, h3⟩, h4⟩
      case struct fs =>
        have : ∃ cs, v = .agg cs := by
          simp only [Value.okWide, hu] at hval
          obtain ⟨cs, h3, _⟩ := hval
          exact ⟨cs, h3⟩
        obtain ⟨cs, rfl⟩ := this
        exact ⟨_, ⟨ds, rfl, h1⟩, DL.aggV h2⟩
      case array k e =>
        have : ∃ cs, v = .agg cs := by
          simp only [Value.okWide, hu] at hval
          obtain ⟨cs, h3, _⟩ := hval
          exact ⟨cs, h3⟩
        obtain ⟨cs, rfl⟩ := this
        exact ⟨_, ⟨ds, rfl, h1⟩, DL.aggV h2⟩
def okTs (tab : List (Nat × Ty)) (d : Nat) : List TypeId → Bool
  | [] => true
  | t :: ts => okT tab d t && okTs tab d ts
theorem args_open (hU : ∀ x, x < w.heap.size → U x) {n d : Nat} {m : Nat → Option Nat} {r : Reach} {b0 : Nat} : ∀ (ts : List TypeId) (vs : List Value) (ds : List (DataW H)) (ps : List MemPlace), okTs E.tab d ts = true →
    (∀ (j : Nat) t v, ts[j]? = some t → vs[j]? = some v → Value.okWide E.P w r b0 t v) → DataW.TrodAll enc E.P w base spare held ts vs ds ps → ∃ xs, OfVs E.tab d ts xs ∧ xs.length = vs.length ∧ ∀ (j : Nat) x v, xs[j]? = some x → vs[j]? = some v → VR U m n w x v
  | [], vs, ds, ps, _, _, h => by
    obtain ⟨rfl, _, _⟩ := trodAll_nil h
    exact ⟨[], rfl, rfl, fun j x v h => by simp at h⟩
  | t :: ts, vs, ds, ps, hok, hval, h => by
    simp only [okTs, Bool.and_eq_true] at hok
    obtain ⟨v, vs, d0, ds, p, q, rfl, rfl, rfl, h0, h1⟩ := trodAll_cons h
    obtain ⟨x, hx, hxv⟩ := arg_open (U := U) (n := n) (m := m) hU hok.1 (hval 0 t v rfl rfl) h0
    obtain ⟨xs, h2, h3, h4⟩ := args_open hU (n := n) (m := m) (r := r) (b0 := b0) ts vs ds q hok.2 (fun j t' v' h1 h2 => hval (j + 1) t' v' (by simpa using h1) (by simpa using h2)) h1
    refine ⟨x :: xs, ⟨x, xs, rfl, hx, h2⟩, by simp [h3], fun j y u h5 h6 => ?_⟩
    cases j with
    | zero => simp at h5 h6; subst h5; subst h6; exact hxv
    | succ j => exact h4 j y u (by simpa using h5) (by simpa using h6)
/-- A law that the logic has shown, as a walk in the real world. -/
theorem law_top {f : FuncId} {ts : Array TypeId} {vs : Array Value} {ds : List (DataW H)} {ps : List MemPlace} {d : Nat} {r : Reach} {b0 : Nat} (law : ∀ xs, OfVs E.tab d ts.toList xs → Call E f xs ⟨0, []⟩ (fun r _ => r = vb true)) (hok : okTs E.tab d ts.toList = true)
    (hval : ∀ (j : Nat) t v, ts[j]? = some t → vs[j]? = some v → Value.okWide E.P w r b0 t v) (h : DataW.TrodAll enc E.P w base spare held ts.toList vs.toList ds ps) :
    Calls E.P f vs w fun e w' => e = .returned (.bool true) ∧ Below w.heap.size w w' := by
  obtain ⟨xs, h1, h2, h3⟩ := args_open (E := E) (U := fun x => x < w.heap.size) (n := 0) (m := fun _ => none) (r := r) (b0 := b0) (fun _ h => h) ts.toList vs.toList ds ps hok (fun j t v h1 h2 => hval j t v (by rw [← Array.getElem?_toList]; exact h1) (by rw [← Array.getElem?_toList]; exact h2)) h
  have hH : HR (fun x => x < w.heap.size) (fun _ => none) 0 [] w := ⟨fun id blk h => by simp [lk] at h, fun id blk x h => by simp [lk] at h, fun id id' blk blk' x h => by simp [lk] at h, fun _ h => h⟩
  refine (law xs h1 (fun x => x < w.heap.size) (fun _ => none) w vs hH ⟨by simpa using h2, fun j x v h4 h5 => h3 j x v h4 (by rw [Array.getElem?_toList]; exact h5)⟩).mono fun e w' ⟨r, R, U', m', h', e1, q, hv, hH', st⟩ => ?_
  subst q
  cases hv with
  | d hv =>
    cases hv
    have hno : ∀ x, ¬ Own (fun _ => none) [] x := by rintro x ⟨id, bk, h1, _⟩; simp [lk] at h1
    exact ⟨e1, ⟨st.os, st.tape, st.output, st.size, fun x hx => st.keep x hx (hno x)⟩⟩
end
end Go.Proofs.Ythkoinngmcpjgaa

/-
  Drawn regions, walked in one order. Conditions: none.
-/
namespace Go.Proofs.Ythkoinngmcpjgaa
open Go.RowKit

def actB : Op → Bool
  | .store _ _ _ => false
  | _ => true
section
variable {E : Env} {k B : Nat} {s s' : Slots} {h h' : Hp} {Q Q' : Post} {o : Oper} {v : V} {d : Nat}
theorem actF_okG (h1 : actF E.tab k o s h = some (s', h')) : Ac E k B (actB o.op) s h o s' h' := by
  obtain ⟨hn, hb'⟩ := h
  unfold actF at h1
  dsimp only at h1
  split at h1
  · rename_i t x d ho hd
    have hb : actB o.op = true := by rw [ho]; rfl
    rw [hb]
    split at h1
    · rename_i v hk hx
      split at h1
      · rename_i l hl
        injection h1 with h1
        simp only [Prod.mk.injEq] at h1
        obtain ⟨rfl, rfl⟩ := h1
        obtain ⟨e1, e2⟩ := csOf_ok hl
        subst e1
        exact Ac.box ho hd hk hx e2 rfl
      · cases h1
    · cases h1
  · rename_i t d ho hd
    have hb : actB o.op = true := by rw [ho]; rfl
    rw [hb]
    split at h1
    · rename_i ty hk ht
      obtain ⟨td, tz, tb, tr⟩ := ty
      dsimp only at h1
      cases tr with
      | none => cases h1
      | some z =>
        dsimp only at h1
        split at h1
        · rename_i l hl
          injection h1 with h1
          simp only [Prod.mk.injEq] at h1
          obtain ⟨rfl, rfl⟩ := h1
          exact Ac.alloc ho hd hk ht rfl hl rfl
        · cases h1
    · cases h1
  · rename_i t x y ho hd
    have hb : actB o.op = false := by rw [ho]; rfl
    rw [hb]
    split at h1
    · rename_i ty id off v ht hx hy
      obtain ⟨td, tz, tb, tr⟩ := ty
      dsimp only at h1
      split at h1
      · rename_i bc l hb hl
        split at h1
        · rename_i bc' hz hp
          injection h1 with h1
          simp only [Prod.mk.injEq] at h1
          obtain ⟨rfl, rfl⟩ := h1
          obtain ⟨e1, e2⟩ := csOf_ok hl
          subst e1
          obtain ⟨e3, e4⟩ := putN_ok hp
          rw [← e3]
          exact Ac.store ho hd ht hx hb hy e2 (by rw [lenN_ok hz]; exact Nat.beq_refl _) (Nat.ble_eq_true_of_le e4)
        · cases h1
      · cases h1
    · cases h1
  · cases h1
/-- What makes, writes or calls. -/
def effO : Op → Bool
  | .store _ _ _ => true
  | .alloc _ => true
  | .box _ _ => true
  | .buildSlice _ _ _ => true
  | .makeMap _ _ => true
  | .mapUpdate _ _ _ _ => true
  | .insert _ _ _ _ => true
  | .call { callee := .builtin .len, .. } => false
  | .call { callee := .builtin .cap, .. } => false
  | .call { callee := .builtin .max, .. } => false
  | .call { callee := .builtin .min, .. } => false
  | .call _ => true
  | _ => false
/-- What leaves the blocks at hand as they are. -/
def gO : Op → Bool
  | .store _ _ _ => false
  | .call { callee := .builtin .append, .. } => false
  | .call { callee := .builtin .copy, .. } => false
  | .call { callee := .builtin .clear, .. } => false
  | .call { callee := .builtin .delete, .. } => false
  | .mapUpdate .. => false
  | _ => true
def gL (l : List Oper) (imp : List Nat) (i : Nat) : Bool := match getN l i with
  | some o => gO o.op && !imp.contains i
  | none => true
/-- The order is one in which each operation that makes, writes or calls is the only one that may come. -/
def okO (l : List Oper) (g : Nat → Bool) : Array Bool → List Nat → Bool
  | listed, [] => (Region.ready .any l.toArray listed).isEmpty
  | listed, i :: r => (match getN l i with
    | some o => match effO o.op with
      | true => (Region.ready .any l.toArray listed) == [i]
      | false => (Region.free .any l.toArray listed i && (Region.ready .any l.toArray listed).contains i) && freeG l.toArray listed i g
    | none => false) && okO l g (listed.setIfInBounds i true) r
def TL (E : Env) (k B : Nat) (l : List Oper) (g : Nat → Bool) (σ : List Nat) (listed : Array Bool) (s : Slots) (h : Hp) (Q : Post) : Prop :=
  okO l g listed σ = true → NoPanic Q → Region.noSelect l.toArray = true → TA E k B l.toArray g σ.length listed s h Q
variable {l : List Oper} {g : Nat → Bool} {σ : List Nat} {listed : Array Bool} {i : Nat}
theorem T.of_drawL {id : Nat} (σ : List Nat) (g : Nat → Bool) (hok : okO l g (Array.replicate l.toArray.size false) σ = true) (hlen : σ.length = l.length) (hP : NoPanic Q) (hs : Region.noSelect l.toArray = true)
    (t : TL E k B l g σ (Array.replicate l.toArray.size false) s h Q) : T E k B (.region id l.toArray true) s h Q :=
  T.of_draw g (by have := t hok hP hs; rwa [hlen, show l.length = l.toArray.size by simp] at this)
theorem T.of_drawI {id : Nat} (σ imp : List Nat) (hok : okO l (gL l imp) (Array.replicate l.toArray.size false) σ = true) (hlen : σ.length = l.length) (hP : NoPanic Q) (hs : Region.noSelect l.toArray = true)
    (t : TL E k B l (gL l imp) σ (Array.replicate l.toArray.size false) s h Q) : T E k B (.region id l.toArray true) s h Q := T.of_drawL σ _ hok hlen hP hs t
theorem get_toArray (l : List Oper) (i : Nat) (hi : getN l i = some o) : l.toArray[i]? = some o := by
  rw [List.getElem?_toArray, ← getN_eq]; exact hi
theorem TL.nil (q : Q .normal s h) : TL E k B l g [] listed s h Q := fun hok _ _ => TA.done (by simpa [okO] using hok) q
theorem TL.yW {ρ : Bool} (hi : getN l i = some o) (hne : effO o.op = false) (y : Yl ρ E k B s h { o with guard := none } v) (hw : Wants s l.toArray o true) (hd : o.dst = some d) (hk : Nat.blt d k = true) (t : TL E k B l g σ (listed.setIfInBounds i true) ((d, v) :: s) h Q) :
    TL E k B l g (i :: σ) listed s h Q := fun hok hP hs => by
  simp only [okO, hi, hne, Bool.and_eq_true] at hok
  exact TA.take i (get_toArray l i hi) y hw hd hk hP hs hok.1.1.1 hok.1.1.2 (by rw [hok.1.2]; cases ρ <;> rfl) (t hok.2 hP hs)
theorem TL.y {ρ : Bool} (hi : getN l i = some o) (y : Yl ρ E k B s h { o with guard := none } v) (hne : effO o.op = false) (hd : o.dst = some d) (hk : Nat.blt d k = true) (hg : o.guard = none) (t : TL E k B l g σ (listed.setIfInBounds i true) ((d, v) :: s) h Q) :
    TL E k B l g (i :: σ) listed s h Q := TL.yW hi hne y (.none hg) hd hk t
theorem TL.step (hi : getN l i = some o) (e1 : yieldF E.tab s h.b o.op = some v) (hne : effO o.op = false) (hd : o.dst = some d) (hk : Nat.blt d k = true) (hg : o.guard = none) (t : TL E k B l g σ (listed.setIfInBounds i true) ((d, v) :: s) h Q) :
    TL E k B l g (i :: σ) listed s h Q := TL.yW (ρ := true) hi hne (yieldF_ok e1) (.none hg) hd hk t
theorem TL.shut {j dj : Nat} {want b : Bool} (hi : getN l i = some o) (hg : o.guard = some (j, want)) (hd : o.dst = some d) (hk : Nat.blt d k = true) (hne : effO o.op = false) (hj : yieldSlot l.toArray j = some dj) (hb : lk s dj = some (vb b)) (hw : b = !want) (t : TL E k B l g σ (listed.setIfInBounds i true) ((d, .un) :: s) h Q) :
    TL E k B l g (i :: σ) listed s h Q := fun hok hP hs => by
  simp only [okO, hi, hne, Bool.and_eq_true] at hok
  exact TA.shut i (get_toArray l i hi) (.shut hg hj hb hw) hd hk hP hs hok.1.1.1 hok.1.1.2 (t hok.2 hP hs)
theorem TL.openY {ρ : Bool} {j dj : Nat} {want b : Bool} (hi : getN l i = some o) (hg : o.guard = some (j, want)) (hj : yieldSlot l.toArray j = some dj) (hb : lk s dj = some (vb b)) (hw : b = want) (y : Yl ρ E k B s h { o with guard := none } v) (hne : effO o.op = false) (hd : o.dst = some d) (hk : Nat.blt d k = true) (t : TL E k B l g σ (listed.setIfInBounds i true) ((d, v) :: s) h Q) :
    TL E k B l g (i :: σ) listed s h Q := TL.yW hi hne y (.open hg hj hb hw) hd hk t
theorem TL.a {gg : Bool} (hi : getN l i = some o) (y : Ac E k B gg s h { o with guard := none } s' h') (hne : effO o.op = true) (hg : o.guard = none) (hgg : (!g i || gg) = true) (t : TL E k B l g σ (listed.setIfInBounds i true) s' h' Q) :
    TL E k B l g (i :: σ) listed s h Q := fun hok hP hs => by
  simp only [okO, hi, hne, Bool.and_eq_true, beq_iff_eq] at hok
  exact TA.ac i (get_toArray l i hi) y (.none hg) hok.1 hgg (t hok.2 hP hs)
theorem TL.act (hi : getN l i = some o) (e1 : actF E.tab k { o with guard := none } s h = some (s', h')) (hne : effO o.op = true) (hg : o.guard = none) (hgg : (!g i || actB o.op) = true) (t : TL E k B l g σ (listed.setIfInBounds i true) s' h' Q) :
    TL E k B l g (i :: σ) listed s h Q := TL.a hi (actF_okG e1) hne hg hgg t
theorem TL.fn {f : FuncId} {xs : Array Operand} {ats : Array TypeId} {args vs : List V} {rv : V} (hi : getN l i = some o) (ho : o.op = .call { callee := .value (.func f), args := xs, argTypes := ats })
    (c : Fn E f args rv) (he : Enters E f) (hv : evL s xs.toList = some vs) (ha : AL vs args) (hg : o.guard = none) (hk : dstOk o.dst k = true) (t : TL E k B l g σ (listed.setIfInBounds i true) (putR o.dst rv s) h Q) :
    TL E k B l g (i :: σ) listed s h Q := fun hok hP hs => by
  have hne : effO o.op = true := by rw [ho]; rfl
  simp only [okO, hi, hne, Bool.and_eq_true, beq_iff_eq] at hok
  exact TA.fn i (get_toArray l i hi) ho c he hv ha (.none hg) hk hok.1 (t hok.2 hP hs)
theorem TL.fnB {f : FuncId} {xs : Array Operand} {ats : Array TypeId} {args vs : List V} {rv : V} (hi : getN l i = some o) (ho : o.op = .call { callee := .value (.func f), args := xs, argTypes := ats })
    (c : Fn E f args rv) (he : Enters E f) (hv : evL s xs.toList = some vs) (ha : BL h vs args) (hfl : rv.flat = true) (hg : o.guard = none) (hk : dstOk o.dst k = true) (t : TL E k B l g σ (listed.setIfInBounds i true) (putR o.dst rv s) h Q) :
    TL E k B l g (i :: σ) listed s h Q := fun hok hP hs => by
  have hne : effO o.op = true := by rw [ho]; rfl
  simp only [okO, hi, hne, Bool.and_eq_true, beq_iff_eq] at hok
  exact TA.fnB i (get_toArray l i hi) ho c he hv ha hfl (.none hg) hk hok.1 (t hok.2 hP hs)
theorem TL.call {f : FuncId} {xs : Array Operand} {ats : Array TypeId} {args vs : List V} {R : V → Hp → Prop} (hi : getN l i = some o) (ho : o.op = .call { callee := .value (.func f), args := xs, argTypes := ats })
    (c : Call E f args h R) (he : Enters E f) (hv : evL s xs.toList = some vs) (ha : AL vs args) (hg : o.guard = none) (hk : dstOk o.dst k = true) (hgi : g i = false) (t : ∀ r h', R r h' → TL E k B l g σ (listed.setIfInBounds i true) (putR o.dst r s) h' Q) :
    TL E k B l g (i :: σ) listed s h Q := fun hok hP hs => by
  have hne : effO o.op = true := by rw [ho]; rfl
  simp only [okO, hi, hne, Bool.and_eq_true, beq_iff_eq] at hok
  exact TA.call i (get_toArray l i hi) ho c he hv ha (.none hg) hk hok.1 hgi (fun r h' hr => t r h' hr hok.2 hP hs)
theorem TL.split {j dj : Nat} {want b : Bool} (hi : getN l i = some o) (hg : o.guard = some (j, want)) (hj : yieldSlot l.toArray j = some dj) (hb : lk s dj = some (vb b)) (ht : b = want → TL E k B l g (i :: σ) listed s h Q) (hf : b = (!want) → TL E k B l g (i :: σ) listed s h Q) : TL E k B l g (i :: σ) listed s h Q := fun hok hP hs =>
  TA.split i (get_toArray l i hi) hg hj hb (fun e => ht e hok hP hs) (fun e => hf e hok hP hs)
theorem NoPanic.thenP {n : Slots → Hp → Prop} (h : NoPanic Q) : NoPanic (thenP n Q) := fun c s h' q => h c s h' q
theorem NoPanic.inB {n : Nat} (h : NoPanic Q) : NoPanic (inBlockP n Q) := fun c s h' q => h c s h' q
theorem NoPanic.seqC {p : Slots → Prop} {q : Hp → Prop} : NoPanic (fun e s' h' => e = Exit.normal ∧ p s' ∧ q h') := fun c s h q => by cases q.1
theorem T.atDraw (id : Nat) (t : T E k B (.region id l.toArray true) s h Q) : T E k B (.region id l.toArray true) s h Q := t
theorem TO.atCall {ops : Array Oper} {rest : List Oper} (f : FuncId) {xs : Array Operand} {ats : Array TypeId} (ho : o.op = .call { callee := .value (.func f), args := xs, argTypes := ats }) (t : TO E k B ops (o :: rest) s h Q) : TO E k B ops (o :: rest) s h Q := t
theorem TL.atCall (f : FuncId) {xs : Array Operand} {ats : Array TypeId} (hi : getN l i = some o) (ho : o.op = .call { callee := .value (.func f), args := xs, argTypes := ats }) (t : TL E k B l g (i :: σ) listed s h Q) : TL E k B l g (i :: σ) listed s h Q := t
theorem hasL_map (i : Nat) : ∀ l : List D, hasL i (l.map .d) = false
  | [] => rfl
  | x :: r => by simp only [List.map_cons, hasL, V.has, hasL_map i r, Bool.or_false]
/-- Data appended to a row of data. -/
theorem Ac.appendD {x y : Operand} {t : TypeId} {td : TypeDesc} {tz tb : Nat} {tr : Option Value} {e : TypeId} {ed : TypeDesc} {ez eb : Nat} {er : Option Value} {id n nn : Nat} {z : Value} {bc cs : List D} (ho : o.op = .call { callee := .builtin .append, args := #[x, y], argTypes := #[t, t] }) (hd : o.dst = some d) (hk : Nat.blt d k = true) (ht : lk E.tab t = some ⟨td, tz, tb, tr⟩) (hty : td = .slice e) (hte : lk E.tab e = some ⟨ed, ez, eb, er⟩)
    (hz : er = some z) (hzs : z.cells.size = ez) (hx : evO s x = some (.sl ez id 0 n)) (hb : lk h.b id = some (some (.dat bc))) (hB : Nat.ble B id = true) (hy : evO s y = some (.d (.lst nn cs))) (he : Nat.blt 0 ez = true) (he0 : Nat.blt 0 eb = true) (hlen : bc.length = n * ez) (hcl : cs.length = nn * ez)
    (hby : (n + nn) * eb ≤ 140737488355328) :
    Ac E k B false s h o ((d, .sl ez id 0 (n + nn)) :: dropS id s) ⟨h.n, (id, some (.dat (bc ++ cs))) :: dropH id h.b⟩ :=
  Ac.append ho hd hk ht hty hte hz hzs hx hb (Nat.le_of_ble_eq_true hB) (.dat bc) (by simpa using hlen) (Src.lst hy hcl (Nat.le_of_ble_eq_true he)) (hasL_map _ _) (hasL_map _ _) (by rw [← List.map_append]; exact .dat _) hby (Nat.le_of_ble_eq_true he0)
end
macro "no_panic" : tactic => `(tactic| repeat (first | exact FinC.noPanic | exact Fin.noPanic | exact NoPanic.seqC | refine NoPanic.thenP ?_ | refine NoPanic.inB ?_))
end Go.Proofs.Ythkoinngmcpjgaa

/-
  Blocks that are forgotten; loops that make blocks. Conditions: none.
-/
namespace Go.Proofs.Ythkoinngmcpjgaa
open Go.RowKit

mutual
/-- All names are below n. -/
def V.lowN (n : Nat) : V → Bool
  | .sl _ id _ _ => Nat.blt id n
  | .ptr id _ => Nat.blt id n
  | .el _ id _ _ => Nat.blt id n
  | .map id => Nat.blt id n
  | .fn _ a c => lowL n a && lowL n c
  | .ifc _ v => v.lowN n
  | .agg cs => lowL n cs
  | .tup vs => lowL n vs
  | .un => true
  | .d _ => true
  | .nn _ _ => true
def lowL (n : Nat) : List V → Bool
  | [] => true
  | v :: r => v.lowN n && lowL n r
end
theorem lowL_get {n : Nat} {l : List V} (h : lowL n l = true) {j : Nat} {v : V} (hj : l[j]? = some v) : v.lowN n = true := by
  induction l generalizing j with
  | nil => simp at hj
  | cons x r ih =>
    simp only [lowL, Bool.and_eq_true] at h
    cases j with
    | zero => simp at hj; subst hj; exact h.1
    | succ j => exact ih h.2 (by simpa using hj)
theorem VR.low {U : Nat → Prop} {m : Nat → Option Nat} {n n' : Nat} {w : World} {v : V} {r : Value} (h : VR U m n' w v r) (hv : v.lowN n = true) : VR U m n w v r := by
  induction h with
  | un v => exact .un v
  | d h => exact .d h
  | nn h hn => exact .nn h hn
  | sl hid hx hk hc h1 h2 => exact .sl (Nat.le_of_ble_eq_true hv) hx hk hc h1 h2
  | sl0 hid hx => exact .sl0 (Nat.le_of_ble_eq_true hv) hx
  | ptr hid hx => exact .ptr (Nat.le_of_ble_eq_true hv) hx
  | el hid hx => exact .el (Nat.le_of_ble_eq_true hv) hx
  | map hid hx => exact .map (Nat.le_of_ble_eq_true hv) hx
  | fn la lc ha hc iha ihc =>
    simp only [V.lowN, Bool.and_eq_true] at hv
    exact .fn la lc (fun j x v h1 h2 => iha j x v h1 h2 (lowL_get hv.1 h1)) (fun j x v h1 h2 => ihc j x v h1 h2 (lowL_get hv.2 h1))
  | ifc h ih => exact .ifc (ih (by simpa [V.lowN] using hv))
  | agg hl h ih => exact .agg hl (fun j c v h1 h2 => ih j c v h1 h2 (lowL_get (by simpa [V.lowN] using hv) h1))
  | tup hl h ih => exact .tup hl (fun j c v h1 h2 => ih j c v h1 h2 (lowL_get (by simpa [V.lowN] using hv) h1))
def Blk.lowN (n : Nat) : Blk → Bool
  | .cells cs => lowL n cs
  | .dat _ => true
  | .rows _ _ _ => true
  | .fm _ _ _ _ _ => true
def lowH (n : Nat) : Heap → Bool
  | [] => true
  | (id, some b) :: r => (Nat.blt id n && b.lowN n) && lowH n r
  | (_, none) :: r => lowH n r
def lowS (n : Nat) : Slots → Bool
  | [] => true
  | (_, v) :: r => v.lowN n && lowS n r
theorem lowS_get {n : Nat} : ∀ {s : Slots}, lowS n s = true → ∀ {t : Nat} {v : V}, lk s t = some v → v.lowN n = true
  | [], _, t, v, hv => by simp [lk] at hv
  | (i, x) :: r, h, t, v, hv => by
    simp only [lowS, Bool.and_eq_true] at h
    rw [lk_cons] at hv
    split at hv
    · injection hv with hv; subst hv; exact h.1
    · exact lowS_get h.2 hv
theorem lowH_get {n : Nat} : ∀ {b : Heap}, lowH n b = true → ∀ {i : Nat} {k : Blk}, lk b i = some (some k) → i < n ∧ k.lowN n = true
  | [], _, i, k, hv => by simp [lk] at hv
  | (j, some x) :: r, h, i, k, hv => by
    simp only [lowH, Bool.and_eq_true] at h
    rw [lk_cons] at hv
    split at hv
    · rename_i he
      injection hv with hv; injection hv with hv; subst hv
      subst he
      exact ⟨Nat.le_of_ble_eq_true h.1.1, h.1.2⟩
    · exact lowH_get h.2 hv
  | (j, none) :: r, h, i, k, hv => by
    simp only [lowH] at h
    rw [lk_cons] at hv
    split at hv
    · injection hv with hv; cases hv
    · exact lowH_get h hv
theorem BR.low {U : Nat → Prop} {m : Nat → Option Nat} {n n' : Nat} {w : World} {x : Option Nat} {k : Blk} (h : BR U m n' w x k) (hk : k.lowN n = true) : BR U m n w x k := by
  cases h with
  | cells h =>
    obtain ⟨arr, t, h1, h2, h3⟩ := h
    exact .cells ⟨arr, t, h1, h2, fun j c v h4 h5 => (h3 j c v h4 h5).low (lowL_get hk h4)⟩
  | dat h => exact .dat h
  | rows hl h => exact .rows hl h
  | rows0 => exact .rows0
  | cells0 => exact .cells0
  | dat0 => exact .dat0
  | fm ents clock h r => exact .fm ents clock h r
/-- The blocks of the second are blocks of the first. -/
def HSub (b b' : Heap) : Prop := ∀ i k, lk b' i = some (some k) → lk b i = some (some k)
theorem HSub.nil (b : Heap) : HSub b [] := fun i k h => by simp [lk] at h
theorem HSub.cons {b b' : Heap} {i : Nat} {x : Option Blk} (h : lk b i = some x) (k : HSub b b') : HSub b ((i, x) :: b') := fun j y hy => by
  rw [lk_cons] at hy
  split at hy
  · rename_i he
    subst he
    rw [h]; exact hy
  · exact k j y hy
theorem HSub.refl (b : Heap) : HSub b b := fun _ _ h => h
section
variable {E : Env} {k B : Nat} {s s' : Slots} {h h' : Hp} {Q Q' : Post} {U : Nat → Prop} {m : Nat → Option Nat} {a : Act} {w : World}
theorem SR.sub {n : Nat} {b : Heap} (r : SR k B U m s' h' a w) (hl : Le s' s) (hb : HSub h'.b b) (h1 : lowS n s = true) (h2 : lowH n b = true) (hB : B ≤ n) : SR k B U m s ⟨n, b⟩ a w where
  slots := fun t v hv => by
    obtain ⟨x, hx, hvr⟩ := (r.le hl).slots t v hv
    exact ⟨x, hx, hvr.low (lowS_get h1 hv)⟩
  size := r.size
  defers := r.defers
  heap := ⟨fun id blk h3 => ⟨(lowH_get h2 h3).1, ((r.heap.live id blk (hb _ _ h3)).2).low (lowH_get h2 h3).2⟩, fun id blk x h3 h4 => r.heap.ok id blk x (hb _ _ h3) h4, fun id id' blk blk' x h3 h4 h5 h6 => r.heap.inj id id' blk blk' x (hb _ _ h3) (hb _ _ h4) h5 h6, r.heap.ulow⟩
  base := hB
theorem Stp.sub {U' : Nat → Prop} {m' : Nat → Option Nat} {w' : World} {n n1 : Nat} {b b1 b' : Heap} (st : Stp B U m n b w U' m' n1 b1 w') (hb : HSub b1 b') {n2 : Nat} (hn : n ≤ n2) : Stp B U m n b w U' m' n2 b' w' :=
  { st with hn := hn, own := fun x hx h => st.own x hx (by obtain ⟨id, blk, h1, h2⟩ := h; exact ⟨id, blk, hb _ _ h1, h2⟩) }
/-- A loop whose rounds make blocks that are forgotten at its head. -/
theorem T.loopH {α : Type} (S : α → Slots) (H : α → Hp) (I : α → Prop) (μ : α → Nat) {c : Code} (x : α) (hl : Le s (S x)) (hb : HSub h.b (H x).b) (hn : h.n ≤ (H x).n) (h1 : lowS (H x).n (S x) = true) (h2 : lowH (H x).n (H x).b = true) (hI : I x)
    (round : ∀ x, I x → T E k B c (S x) (H x) (thenP (fun s' h' => ∃ y, I y ∧ μ y < μ x ∧ Le s' (S y) ∧ HSub h'.b (H y).b ∧ (H x).n ≤ (H y).n ∧ lowS (H y).n (S y) = true ∧ lowH (H y).n (H y).b = true) Q)) : T E k B (.loop c) s h Q := by
  have key : ∀ n x, μ x < n → I x → ∀ U m a w, SR k B U m (S x) (H x) a w → Code.rounds E.P c (RP k B U m (H x) w Q) n a w := by
    intro n
    induction n with
    | zero => intro x hx; omega
    | succ n ih =>
      intro x hx hI U m a w r
      rw [rounds_succ]
      refine wp_mono (round x hI U m a w r) fun e a' w' ⟨U', m', s', h', q, r', st⟩ => ?_
      cases e with
      | normal =>
        obtain ⟨y, hy, hm, hl, hb, hn, h1, h2⟩ := q
        have := ih y (by omega) hy U' m' a' w' (r'.sub hl hb h1 h2 (Nat.le_trans r.base hn))
        refine rounds_mono ?_ _ _ _ this
        exact fun e a2 w2 h2 => RP_trans (h' := H y) (st.sub hb hn) h2
      | _ => exact ⟨U', m', s', h', q, r', st⟩
  exact fun U m a w r => by
    have r1 := r.sub hl hb h1 h2 (Nat.le_trans r.base hn)
    refine wp_loop_rounds (μ x + 1) (rounds_mono ?_ _ _ _ (key _ x (by omega) hI U m a w r1))
    exact fun e a2 w2 h2 => RP_trans (h' := H x) ((Stp.refl B U m h.n h.b w).sub hb hn) h2
/-- Blocks and slots that are not needed any more. -/
theorem T.forget {c : Code} (s1 : Slots) (b1 : Heap) (hl : Le s s1) (hb : HSub h.b b1) (h1 : lowS h.n s1 = true) (h2 : lowH h.n b1 = true) (t : T E k B c s1 ⟨h.n, b1⟩ Q) : T E k B c s h Q := fun U m a w r => by
  refine wp_mono (t U m a w (r.sub hl hb h1 h2 r.base)) fun e a' w' q => RP_trans (h' := ⟨h.n, b1⟩) ((Stp.refl B U m h.n h.b w).sub hb (Nat.le_refl _)) q
def kindO : Op → Nat
  | .pick .. => 1
  | .indexAddr .. => 2
  | .binOp .add _ _ _ _ => 31
  | .binOp .sub _ _ _ _ => 32
  | .binOp .mul _ _ _ _ => 33
  | .binOp .eql _ _ _ _ => 34
  | .binOp .neq _ _ _ _ => 35
  | .unOp .. => 4
  | .convert .. => 5
  | .build .. => 6
  | .slice .. => 7
  | .sliceToArrayPointer .. => 8
  | .call { callee := .builtin .append, .. } => 91
  | .call { callee := .builtin .max, .. } => 92
  | .call { callee := .builtin .min, .. } => 93
  | .call { callee := .value (.func _), .. } => 90
  | .makeFunc .. => 10
  | .nilCheck .. => 11
  | .buildSlice .. => 12
  | _ => 0
theorem TO.atK {ops : Array Oper} {rest : List Oper} {o : Oper} (n : Nat) (hk : Nat.beq (kindO o.op) n = true) (t : TO E k B ops (o :: rest) s h Q) : TO E k B ops (o :: rest) s h Q := t
theorem TL.atK {l : List Oper} {g : Nat → Bool} {σ : List Nat} {listed : Array Bool} {i : Nat} {o : Oper} (n : Nat) (hi : getN l i = some o) (hk : Nat.beq (kindO o.op) n = true) (t : TL E k B l g (i :: σ) listed s h Q) : TL E k B l g (i :: σ) listed s h Q := t
theorem TO.atG {ops : Array Oper} {rest : List Oper} {o : Oper} (hk : o.guard.isSome = true) (t : TO E k B ops (o :: rest) s h Q) : TO E k B ops (o :: rest) s h Q := t
theorem TL.atG {l : List Oper} {g : Nat → Bool} {σ : List Nat} {listed : Array Bool} {i : Nat} {o : Oper} (hi : getN l i = some o) (hk : o.guard.isSome = true) (t : TL E k B l g (i :: σ) listed s h Q) : TL E k B l g (i :: σ) listed s h Q := t
theorem T.at_ {c : Code} (t : T E k B c s h Q) : T E k B c s h Q := t
theorem T.atR {id : Nat} {l : List Oper} {b : Bool} (t : T E k B (.region id l.toArray b) s h Q) : T E k B (.region id l.toArray b) s h Q := t
theorem TO.at_ {ops : Array Oper} {l : List Oper} (t : TO E k B ops l s h Q) : TO E k B ops l s h Q := t
theorem TL.at_ {l : List Oper} {g : Nat → Bool} {σ : List Nat} {listed : Array Bool} (t : TL E k B l g σ listed s h Q) : TL E k B l g σ listed s h Q := t
theorem T.atReg (id : Nat) {l : List Oper} (t : T E k B (.region id l.toArray false) s h Q) : T E k B (.region id l.toArray false) s h Q := t
theorem T.leF {c : Code} (hl : Le s s') (t : T E k B c s' h Q) : T E k B c s h Q := t.le hl
end
/-- sub-heap, entry by entry -/
macro "h_sub" : tactic => `(tactic| repeat (first | exact HSub.nil _ | refine HSub.cons rfl ?_))
end Go.Proofs.Ythkoinngmcpjgaa

/-
  The logic's rules for rows that are told element by element. Conditions: none.
-/
namespace Go.Proofs.Ythkoinngmcpjgaa
open Go.RowKit

section
variable {α : Type}
theorem flatN_succ (n : Nat) (f : Nat → List α) : flatN (n + 1) f = f 0 ++ flatN n (fun i => f (i + 1)) := by
  unfold flatN
  rw [List.range_succ_eq_map, List.flatMap_cons, List.flatMap_map]
theorem flatN_last (n : Nat) (f : Nat → List α) : flatN (n + 1) f = flatN n f ++ f n := by
  unfold flatN
  rw [List.range_succ, List.flatMap_append]; simp
theorem flatN_len {n e : Nat} {f : Nat → List α} (h : ∀ i, i < n → (f i).length = e) : (flatN n f).length = n * e := by
  induction n generalizing f with
  | zero => simp [flatN]
  | succ n ih => rw [flatN_succ, List.length_append, h 0 (by omega), ih (fun i hi => h (i + 1) (by omega)), Nat.add_mul, Nat.one_mul, Nat.add_comm]
theorem flatN_drop {n e : Nat} {f : Nat → List α} (h : ∀ i, i < n → (f i).length = e) {i : Nat} (hi : i ≤ n) : (flatN n f).drop (i * e) = flatN (n - i) (fun j => f (i + j)) := by
  induction i generalizing n f with
  | zero => simp
  | succ i ih =>
    obtain ⟨n, rfl⟩ : ∃ k, n = k + 1 := ⟨n - 1, by omega⟩
    rw [flatN_succ, Nat.add_mul, Nat.one_mul, Nat.add_comm (i * e) e, ← List.drop_drop, List.drop_append, h 0 (by omega), Nat.sub_self, List.drop_of_length_le (l := f 0) (by rw [h 0 (by omega)]; omega), List.nil_append, List.drop_zero, ih (fun j hj => h (j + 1) (by omega)) (by omega)]
    rw [Nat.add_sub_add_right]
    congr 1; funext j; congr 1; omega
theorem flatN_take {n e : Nat} {f : Nat → List α} (h : ∀ i, i < n → (f i).length = e) {i : Nat} (hi : i ≤ n) : (flatN n f).take (i * e) = flatN i f := by
  induction i generalizing n f with
  | zero => simp [flatN]
  | succ i ih =>
    obtain ⟨n, rfl⟩ : ∃ k, n = k + 1 := ⟨n - 1, by omega⟩
    rw [flatN_succ, flatN_succ, Nat.add_mul, Nat.one_mul, Nat.add_comm (i * e) e, List.take_append, h 0 (by omega), Nat.add_sub_cancel_left, List.take_of_length_le (by rw [h 0 (by omega)]; omega), ih (fun j hj => h (j + 1) (by omega)) (by omega)]
theorem flatN_at {n e : Nat} {f : Nat → List α} (h : ∀ i, i < n → (f i).length = e) {i : Nat} (hi : i < n) : ((flatN n f).drop (i * e)).take e = f i := by
  rw [flatN_drop h (by omega)]
  obtain ⟨k, hk⟩ : ∃ k, n - i = k + 1 := ⟨n - i - 1, by omega⟩
  rw [hk, flatN_succ, Nat.add_zero, List.take_append, h i hi, Nat.sub_self, List.take_zero, List.append_nil, List.take_of_length_le (by rw [h i hi]; omega)]
theorem flatN_slice {n e : Nat} {f : Nat → List α} (h : ∀ i, i < n → (f i).length = e) {lo hh : Nat} (h1 : lo ≤ hh) (h2 : hh ≤ n) : ((flatN n f).drop (lo * e)).take ((hh - lo) * e) = flatN (hh - lo) (fun j => f (lo + j)) := by
  rw [flatN_drop h (by omega), flatN_take (fun i hi => h (lo + i) (by omega)) (by omega)]
theorem flatN_app {n m : Nat} {f g : Nat → List α} : flatN (n + m) (fun i => cond (Nat.blt i n) (f i) (g (i - n))) = flatN n f ++ flatN m g := by
  induction m with
  | zero =>
    rw [show flatN 0 g = [] from rfl, List.append_nil, Nat.add_zero]
    exact flatN_ext fun i hi => by
      have : Nat.blt i n = true := Nat.ble_eq_true_of_le hi
      rw [this]; rfl
  | succ m ih =>
    rw [← Nat.add_assoc, flatN_last, ih, flatN_last, List.append_assoc]
    have : Nat.blt (n + m) n = false := by
      cases hb : Nat.blt (n + m) n
      · rfl
      · have := Nat.le_of_ble_eq_true hb; omega
    rw [this]
    simp only [cond_false, Nat.add_sub_cancel_left]
theorem flatN_get {n e : Nat} {f : Nat → List α} (h : ∀ i, i < n → (f i).length = e) {i r : Nat} (hi : i < n) (hr : r < e) : (flatN n f)[i * e + r]? = (f i)[r]? := by
  have h1 := flatN_at h hi
  rw [← h1, List.getElem?_take, if_pos hr, List.getElem?_drop]
end

section
variable {E : Env} {k B : Nat} {s s' : Slots} {h h' : Hp} {Q Q' : Post} {U : Nat → Prop} {m : Nat → Option Nat} {a : Act} {w w' : World} {o : Oper} {v : V} {d n : Nat} {t u e : TypeId} {td ed : TypeDesc} {tz tb ez eb : Nat} {tr er : Option Value} {x y : Operand} {ρ : Bool} {ops : Array Oper} {rest : List Oper}
/-- What an operation yields hangs on what is known of its operands alone. -/
theorem Yl.le (y : Yl ρ E k B s' h o v) (hl : Le s s') : Yl ρ E k B s h o v := fun U m a w r => y U m a w (r.le hl)
theorem Yl.weak {v' : V} (y : Yl ρ E k B s h o v) (l : VLe v v') : Yl ρ E k B s h o v' := fun U m a w r => by
  obtain ⟨x, h1, h2⟩ := y U m a w r
  exact ⟨x, h1.le l, h2⟩
theorem Yl.indexR {f : Nat → List D} {q : IntKind} {i : Int} (ho : o.op = .indexAddr t x y) (ht : lk E.tab t = some ⟨td, tz, tb, tr⟩) (hd : td = .slice e) (hte : lk E.tab e = some ⟨ed, ez, eb, er⟩) (hx : evO s x = some (.d (.rows n ez f))) (hy : evO s y = some (.d (.int q i))) (h0 : 0 ≤ i) (h1 : i < n) (hz : 0 < ez) :
    Yl ρ E k B s h o (.d (.lptr (f i.toNat))) := fun U m a w r => by
  have h2 := r.evD hx
  generalize hv : a.eval x = v at h2
  cases h2 with | rows hlen h2 =>
  cases h2 with | @lst _ _ A cap g hk hc ha hv2 =>
  have hi : i.toNat < n := by omega
  have hl := flatN_at hlen hi
  have hcl := flatN_len hlen
  have h3 : i.toNat * ez < (flatN n f).length := by
    rw [hcl]; exact Nat.mul_lt_mul_of_pos_right hi hz
  obtain ⟨ad, rfl, hu, _⟩ := ha _ h3
  have add2 : ∀ o j, (ad.add o).add j = ad.add (o + j) := fun o j => by
    unfold Addr.add; split <;> split <;> split <;> simp_all [Nat.add_assoc]
  have hin : ∀ j c, (f i.toNat)[j]? = some c → (flatN n f)[i.toNat * ez + j]? = some c := fun j c hc => take_get hl hc
  refine ⟨.pointer (some (ad.add (i.toNat * ez))), .d (.lptr (fun j => g (i.toNat * ez + j)) (by rw [add_block]; exact hu) (fun j hj => ?_) (fun j c hc => hv2 _ c (hin j c hc))), fun w' _ => ?_⟩
  · obtain ⟨ad', e1, _, e3⟩ := ha (i.toNat * ez + j) ((List.getElem?_eq_some_iff.1 (hin j _ (List.getElem?_eq_getElem hj))).1)
    injection e1 with e1; subst e1
    rw [add2]; exact e3
  · have hu := und ht w'
    rw [hd] at hu
    simp [execOp, ho, Instr.indexAt, hv, hu, r.evInt hy, asIntOf, h0, h1, szo hte w']
theorem Yl.lenRows {f : Nat → List D} {ats : Array TypeId} {el : TypeId} (ho : o.op = .call { callee := .builtin .len, args := #[x], argTypes := ats }) (ha : ats[0]? = some t) (ht : lk E.tab t = some ⟨td, tz, tb, tr⟩) (hd : td = .slice el) (hx : evO s x = some (.d (.rows n e f))) : Yl ρ E k B s h o (vi n) := fun U m a w r => by
  have h2 := r.evD hx
  generalize hv : a.eval x = v at h2
  cases h2 with | rows hlen h2 =>
  cases h2 with | lst f hk hc g1 g2 =>
  refine ⟨_, .d (.int .i64 n (lenR (Nat.le_trans hk hc))), fun w' _ => ?_⟩
  have hu := und ht w'
  rw [hd] at hu
  simp [execOp, ho, resolve, invoke, builtin, Builtin.len_, ha, hu, hv, goInt]
theorem Yl.sliceR {f : Nat → List D} {lo hi : Option Operand} {l hh : Int} (ho : o.op = .slice t x lo hi none) (hx : evO s x = some (.d (.rows n ez f))) (ht : lk E.tab t = some ⟨td, tz, tb, tr⟩) (hd : td = .slice e) (hte : lk E.tab e = some ⟨ed, ez, eb, er⟩) (hlo : bnd s 0 lo = some l) (hhi : bnd s n hi = some hh)
    (h0 : 0 ≤ l) (h1 : l ≤ hh) (h2 : hh ≤ n) : Yl ρ E k B s h o (.d (.rows (hh.toNat - l.toNat) ez (fun i => f (l.toNat + i)))) := fun U m a w r => by
  have h3 := r.evD hx
  generalize hv : a.eval x = v at h3
  cases h3 with | rows hlen h3 =>
  cases h3 with | @lst _ _ A cap g hk hc ha hv2 =>
  have hu : ∀ w', (underlying t).run E.P w' = .ok (.slice e) w' := fun w' => by have := und ht w'; rw [hd] at this; exact this
  have run : ∀ w', (execOp a.eval o).run E.P w' = .ok (.value (.slice (if cap = l.toNat then A else A.map (·.add (l.toNat * ez))) (hh.toNat - l.toNat) (cap - l.toNat))) w' := fun w' => by
    have hb := run_bounds (P := E.P) (g := true) (len := n) (cap := cap) r hlo hhi h0 h1 (by omega) hk w'
    simp only [execOp, ho, Instr.sliceAt, hv, Sem.run_bind, hu w', Result.andThen_ok, Instr.slice, Option.map_none, hb, szo hte w', Sem.run_pure]
  have hds := flatN_slice hlen (lo := l.toNat) (hh := hh.toNat) (by omega) (by omega)
  have hin : ∀ j c, (flatN (hh.toNat - l.toNat) (fun j => f (l.toNat + j)))[j]? = some c → (flatN n f)[l.toNat * ez + j]? = some c := fun j c hc => take_get hds hc
  have hdl := flatN_len (n := hh.toNat - l.toNat) (e := ez) (f := fun j => f (l.toNat + j)) (fun i hi => hlen _ (by omega))
  refine ⟨_, .d (.rows (fun i hi => hlen _ (by omega)) (.lst (fun j => g (l.toNat * ez + j)) (by omega) (by omega) (fun j hj => ?_) (fun j c hc => hv2 _ c (hin j c hc)))), fun w' _ => run w'⟩
  obtain ⟨ad, e1, e2, e3⟩ := ha _ (List.getElem?_eq_some_iff.1 (hin j _ (List.getElem?_eq_getElem hj))).1
  subst e1
  have add2 : ∀ o j, (ad.add o).add j = ad.add (o + j) := fun o j => by
    unfold Addr.add; split <;> split <;> split <;> simp_all [Nat.add_assoc]
  split
  · rename_i hcl
    have hz : hh.toNat - l.toNat = 0 := by omega
    rw [hdl, hz, Nat.zero_mul] at hj
    omega
  · exact ⟨_, rfl, by rw [add_block]; exact e2, by rw [add2]; exact e3⟩
/-- Lent: a row at hand that is told element by element. -/
theorem BLe.rowR {ec id o n j : Nat} {f : Nat → List D} (hb : lk h.b id = some (some (.rows j ec f))) (hn : o + n ≤ j) : BLe h (.sl ec id (o * ec) n) (.d (.rows n ec fun i => f (o + i))) := fun U m w r hH hv => by
  have hU : ∀ x, U x → lent U m h.b x := fun x hx => .inl hx
  cases hv with
  | sl0 hid hm => exact .d (.rows (fun i hi => by omega) (DR.nil_lst .nsl))
  | @sl _ _ _ _ xx cap z hid hm hk hc hz2 hs =>
    obtain ⟨_, hbr⟩ := hH.live id _ hb
    rw [hm] at hbr
    cases hbr with | rows hlen hbr =>
    obtain ⟨arr, et, g1, g2, g3⟩ := hbr
    have hds := flatN_slice hlen (lo := o) (hh := o + n) (by omega) hn
    rw [Nat.add_sub_cancel_left] at hds
    refine .d (.rows (fun i hi => hlen _ (by omega)) (.lst (fun j => arr.getD (o * ec + j) undef) hk hc (fun j hj => ⟨_, rfl, .inr ⟨id, _, hb, hm⟩, ?_⟩) (fun j c hc2 => ?_)))
    · have e2 := take_get hds (List.getElem?_eq_getElem hj)
      have e3 : o * ec + j < arr.size := Nat.lt_of_lt_of_le (List.getElem?_eq_some_iff.1 e2).1 g2
      rw [Addr.add_lit, cell_of_arr g1, Array.getD_eq_getD_getElem?, Array.getElem?_eq_getElem e3]; rfl
    · have e2 := take_get hds hc2
      have e3 : o * ec + j < arr.size := Nat.lt_of_lt_of_le (List.getElem?_eq_some_iff.1 e2).1 g2
      rw [Array.getD_eq_getD_getElem?, Array.getElem?_eq_getElem e3]
      exact (g3 _ _ _ e2 (Array.getElem?_eq_getElem e3)).mono hU (fun _ _ => rfl)
/-- What is appended, told element by element. -/
theorem Src.rows {x : Operand} {e n : Nat} {f : Nat → List D} (hx : evO s x = some (.d (.rows n e f))) (he : 0 < e) : Src s h x e n ((flatN n f).map .d) := fun k B U m a w r => by
  have h1 := r.evD hx
  generalize hv : a.eval x = v at h1
  cases h1 with | rows hlen h1 =>
  have hl := flatN_len hlen
  cases h1 with | @lst _ _ A cap g hk hc ha hv2 =>
  refine ⟨A, cap, (List.range (flatN n f).length).map g, rfl, by simp [hl], by simpa using hl, fun hA => ?_, fun ad hA j u hu => ?_, fun u hu => ?_, fun j c u hc hu => ?_⟩
  · cases n with
    | zero => rfl
    | succ n =>
      have : 0 < (flatN (n + 1) f).length := by rw [hl]; exact Nat.mul_pos (by omega) (by omega)
      obtain ⟨ad, h1, _⟩ := ha 0 this
      rw [hA] at h1; cases h1
  · rw [List.getElem?_map] at hu
    obtain ⟨i, hi, rfl⟩ := Option.map_eq_some_iff.1 hu
    obtain ⟨hj, h2⟩ := List.getElem?_eq_some_iff.1 hi
    simp at hj h2; subst h2
    obtain ⟨ad', h3, _, h4⟩ := ha j hj
    rw [hA] at h3; injection h3 with h3; subst h3; exact h4
  · obtain ⟨i, hi, rfl⟩ := List.mem_map.1 hu
    simp at hi
    exact dr_one (hv2 i _ (List.getElem?_eq_getElem hi))
  · rw [List.getElem?_map] at hc hu
    obtain ⟨c0, hc0, rfl⟩ := Option.map_eq_some_iff.1 hc
    obtain ⟨i, hi, rfl⟩ := Option.map_eq_some_iff.1 hu
    obtain ⟨hj, h2⟩ := List.getElem?_eq_some_iff.1 hi
    simp at h2; subst h2
    exact .d (hv2 j c0 hc0)
end
end Go.Proofs.Ythkoinngmcpjgaa

/-
  Values, two of them in one: one of them, as a truth value tells. Conditions: none.
-/
namespace Go.Proofs.Ythkoinngmcpjgaa
open Go.RowKit

def selC (b : Bool) (x y : D) : D := match x with
  | .bool p => match y with
    | .bool q => .bool (cond b p q)
    | _ => cond b x y
  | .int k i => match y with
    | .int k' j => match sameK k k' with
      | true => .int k (cond b i j)
      | false => cond b x y
    | _ => cond b x y
  | .str p => match y with
    | .str q => .str (cond b p q)
    | _ => cond b x y
  | _ => cond b x y
theorem selC_eq (b : Bool) (x y : D) : selC b x y = cond b x y := by
  unfold selC
  split
  · split
    · cases b <;> rfl
    · rfl
  · split
    · split
      · rename_i h; have := sameK_eq h; subst this; cases b <;> rfl
      · rfl
    · rfl
  · split
    · cases b <;> rfl
    · rfl
  · rfl
noncomputable def selL (b : Bool) (l : List D) : List D → List D :=
  List.rec (motive := fun _ => List D → List D) (fun l' => match l' with | [] => [] | y :: r => cond b [] (y :: r)) (fun x r ih l' => match l' with | [] => cond b (x :: r) [] | y :: r' => selC b x y :: ih r') l
theorem selL_eq (b : Bool) : ∀ (l l' : List D), selL b l l' = cond b l l'
  | [], [] => by cases b <;> rfl
  | [], y :: r => rfl
  | x :: r, [] => rfl
  | x :: r, y :: r' => by
    show selC b x y :: selL b r r' = _
    rw [selC_eq, selL_eq b r r']; cases b <;> rfl
/-- One of two lengths. -/
def selN (b : Bool) (n m : Nat) : Nat := match Nat.beq n m with | true => n | false => cond b n m
theorem selN_eq (b : Bool) (n m : Nat) : selN b n m = cond b n m := by
  unfold selN
  split
  · rename_i h; have := Nat.eq_of_beq_eq_true h; subst this; cases b <;> rfl
  · rfl
/-- One of two data. -/
noncomputable def selD (b : Bool) (x y : D) : D := match x with
  | .rows n e f => match y with
    | .rows n' e' f' => match Nat.beq e e' with
      | true => .rows (selN b n n') e (fun i => selL b (f i) (f' i))
      | false => cond b x y
    | .nsl => .rows (cond b n 0) e f
    | _ => cond b x y
  | .lst n cs => match y with
    | .lst n' cs' => .lst (selN b n n') (selL b cs cs')
    | _ => cond b x y
  | .nsl => match y with
    | .rows n e f => .rows (cond b 0 n) e f
    | .nsl => .nsl
    | _ => cond b x y
  | .lptr cs => match y with
    | .lptr cs' => .lptr (selL b cs cs')
    | _ => cond b x y
  | .nilp => match y with
    | .nilp => .nilp
    | _ => cond b x y
  | _ => selC b x y
theorem selD_le (b : Bool) (x y : D) : VLe (.d (cond b x y)) (.d (selD b x y)) := by
  unfold selD
  split
  · split
    · split
      · rename_i h; have := Nat.eq_of_beq_eq_true h; subst this
        refine VLe.of_eq ?_
        simp only [selL_eq, selN_eq]
        cases b <;> rfl
      · exact .refl _
    · cases b
      · exact VLe.nilR _ _
      · exact .refl _
    · exact .refl _
  · split
    · refine VLe.of_eq ?_
      simp only [selL_eq, selN_eq]
      cases b <;> rfl
    · exact .refl _
  · split
    · cases b
      · exact .refl _
      · exact VLe.nilR _ _
    · cases b <;> exact .refl _
    · exact .refl _
  · split
    · refine VLe.of_eq ?_
      simp only [selL_eq, selN_eq]
      cases b <;> rfl
    · exact .refl _
  · split
    · cases b <;> exact .refl _
    · exact .refl _
  · rw [selC_eq]; exact .refl _
mutual
/-- One of two values. -/
noncomputable def selV (b : Bool) : V → V → V
  | .d x, y => match y with
    | .d x' => .d (selD b x x')
    | y => cond b (.d x) y
  | .agg l, y => match y with
    | .agg l' => .agg (selVs b l l')
    | y => cond b (.agg l) y
  | .tup l, y => match y with
    | .tup l' => .tup (selVs b l l')
    | y => cond b (.tup l) y
  | .sl e id off n, y => match y with
    | .sl e' id' off' n' => match Nat.beq e e' && Nat.beq id id' with
      | true => .sl e id (selN b off off') (selN b n n')
      | false => cond b (.sl e id off n) (.sl e' id' off' n')
    | y => cond b (.sl e id off n) y
  | .ptr id off, y => match y with
    | .ptr id' off' => match Nat.beq id id' with
      | true => .ptr id (selN b off off')
      | false => cond b (.ptr id off) (.ptr id' off')
    | y => cond b (.ptr id off) y
  | .el e id i r, y => match y with
    | .el e' id' i' r' => match Nat.beq e e' && Nat.beq id id' with
      | true => .el e id (selN b i i') (selN b r r')
      | false => cond b (.el e id i r) (.el e' id' i' r')
    | y => cond b (.el e id i r) y
  | .map id, y => match y with
    | .map id' => match Nat.beq id id' with
      | true => .map id
      | false => cond b (.map id) (.map id')
    | y => cond b (.map id) y
  | .fn f a c, y => match y with
    | .fn f' a' c' => match Nat.beq f f' with
      | true => .fn f (selVs b a a') (selVs b c c')
      | false => cond b (.fn f a c) (.fn f' a' c')
    | y => cond b (.fn f a c) y
  | .ifc t v, y => cond b (.ifc t v) y
  | .un, y => cond b .un y
  | .nn q x, y => cond b (.nn q x) y
noncomputable def selVs (b : Bool) : List V → List V → List V
  | [], l => match l with
    | [] => []
    | y :: r => cond b [] (y :: r)
  | x :: r, l => match l with
    | y :: r' => selV b x y :: selVs b r r'
    | [] => cond b (x :: r) []
end
theorem and_split {a b : Bool} (h : (a && b) = true) : a = true ∧ b = true := by cases a <;> cases b <;> simp_all
mutual
theorem selV_le (b : Bool) : ∀ x y : V, VLe (cond b x y) (selV b x y)
  | .d x, y => by
    cases y with
    | d x' =>
      have h : (cond b (V.d x) (V.d x')) = .d (cond b x x') := by cases b <;> rfl
      unfold selV
      rw [h]; exact selD_le b x x'
    | _ => unfold selV; exact .refl _
  | .agg l, y => by
    cases y with
    | agg l' =>
      have h : (cond b (V.agg l) (V.agg l')) = .agg (cond b l l') := by cases b <;> rfl
      unfold selV
      rw [h]; exact VLe.agg (selVs_le b l l')
    | _ => unfold selV; exact .refl _
  | .tup l, y => by
    cases y with
    | tup l' =>
      have h : (cond b (V.tup l) (V.tup l')) = .tup (cond b l l') := by cases b <;> rfl
      unfold selV
      rw [h]; exact VLe.tup (selVs_le b l l')
    | _ => unfold selV; exact .refl _
  | .sl e id off n, y => by
    cases y with
    | sl e' id' off' n' =>
      unfold selV
      dsimp only
      split
      · rename_i h
        obtain ⟨h1, h2⟩ := and_split h
        have h1 := Nat.eq_of_beq_eq_true h1; have h2 := Nat.eq_of_beq_eq_true h2
        subst h1; subst h2
        simp only [selN_eq]
        cases b <;> exact .refl _
      · exact .refl _
    | _ => unfold selV; exact .refl _
  | .ptr id off, y => by
    cases y with
    | ptr id' off' =>
      unfold selV
      dsimp only
      split
      · rename_i h
        have h1 := Nat.eq_of_beq_eq_true h
        subst h1
        simp only [selN_eq]
        cases b <;> exact .refl _
      · exact .refl _
    | _ => unfold selV; exact .refl _
  | .el e id off n, y => by
    cases y with
    | el e' id' off' n' =>
      unfold selV
      dsimp only
      split
      · rename_i h
        obtain ⟨h1, h2⟩ := and_split h
        have h1 := Nat.eq_of_beq_eq_true h1; have h2 := Nat.eq_of_beq_eq_true h2
        subst h1; subst h2
        simp only [selN_eq]
        cases b <;> exact .refl _
      · exact .refl _
    | _ => unfold selV; exact .refl _
  | .map id, y => by
    cases y with
    | map id' =>
      unfold selV
      dsimp only
      split
      · rename_i h
        have h1 := Nat.eq_of_beq_eq_true h
        subst h1
        cases b <;> exact .refl _
      · exact .refl _
    | _ => unfold selV; exact .refl _
  | .fn f a c, y => by
    cases y with
    | fn f' a' c' =>
      unfold selV
      dsimp only
      split
      · rename_i h
        have h1 := Nat.eq_of_beq_eq_true h
        subst h1
        have h : (cond b (V.fn f a c) (V.fn f a' c')) = .fn f (cond b a a') (cond b c c') := by cases b <;> rfl
        rw [h]; exact VLe.fn (selVs_le b a a') (selVs_le b c c')
      · exact .refl _
    | _ => unfold selV; exact .refl _
  | .ifc t v, y => by unfold selV; exact .refl _
  | .un, y => by unfold selV; exact .refl _
  | .nn q x, y => by unfold selV; exact .refl _
theorem selVs_le (b : Bool) : ∀ l l' : List V, LLe (cond b l l') (selVs b l l')
  | [], l' => by
    cases l' with
    | nil => unfold selVs; cases b <;> exact .nil
    | cons => unfold selVs; exact .refl _
  | x :: r, l' => by
    cases l' with
    | nil => unfold selVs; exact .refl _
    | cons y r' =>
      have h : (cond b (x :: r) (y :: r')) = cond b x y :: cond b r r' := by cases b <;> rfl
      unfold selVs
      rw [h]; exact .cons (selV_le b x y) (selVs_le b r r')
end
theorem selV_t {b : Bool} {x y : V} (h : b = true) : VLe x (selV b x y) := by have := selV_le b x y; subst h; exact this
theorem selV_f {b : Bool} {x y : V} (h : b = false) : VLe y (selV b x y) := by have := selV_le b x y; subst h; exact this
/-- One of two frames: what both name. -/
noncomputable def selS (b : Bool) (s1 s2 : Slots) : List Nat → Slots :=
  List.rec [] (fun t _ ih => match lk s1 t with | some v1 => (match lk s2 t with | some v2 => (t, selV b v1 v2) :: ih | none => ih) | none => ih)
theorem selS_t {b : Bool} {s1 s2 : Slots} (h : b = true) (ts : List Nat) : Le s1 (selS b s1 s2 ts) := by
  induction ts with
  | nil => exact Le.nil _
  | cons t r ih =>
    show Le s1 (match lk s1 t with | some v1 => (match lk s2 t with | some v2 => (t, selV b v1 v2) :: selS b s1 s2 r | none => selS b s1 s2 r) | none => selS b s1 s2 r)
    split
    · rename_i v1 h1
      split
      · intro p hp
        rcases List.mem_cons.1 hp with rfl | hp
        · exact ⟨_, h1, selV_t h⟩
        · exact ih p hp
      · exact ih
    · exact ih
theorem selS_f {b : Bool} {s1 s2 : Slots} (h : b = false) (ts : List Nat) : Le s2 (selS b s1 s2 ts) := by
  induction ts with
  | nil => exact Le.nil _
  | cons t r ih =>
    show Le s2 (match lk s1 t with | some v1 => (match lk s2 t with | some v2 => (t, selV b v1 v2) :: selS b s1 s2 r | none => selS b s1 s2 r) | none => selS b s1 s2 r)
    split
    · rename_i v1 h1
      split
      · rename_i v2 h2
        intro p hp
        rcases List.mem_cons.1 hp with rfl | hp
        · exact ⟨_, h2, selV_f h⟩
        · exact ih p hp
      · exact ih
    · exact ih
/-- A frame's slots that are needed. -/
noncomputable def trimS (s : Slots) : List Nat → Slots :=
  List.rec [] (fun t _ ih => match lk s t with | some v => (t, v) :: ih | none => ih)
theorem trimS_le (s : Slots) (ts : List Nat) : Le s (trimS s ts) := by
  induction ts with
  | nil => exact Le.nil _
  | cons t r ih =>
    show Le s (match lk s t with | some v => (t, v) :: trimS s r | none => trimS s r)
    split
    · rename_i v h1
      exact Le.cons h1 ih
    · exact ih
end Go.Proofs.Ythkoinngmcpjgaa

/-
  The reckoner: what an operation yields, and under which condition. Conditions: none.
-/
namespace Go.Proofs.Ythkoinngmcpjgaa
open Go.RowKit

section
variable {E : Env} {k B : Nat} {s s' : Slots} {h h' : Hp} {Q Q' : Post} {U : Nat → Prop} {m : Nat → Option Nat} {a : Act} {w w' : World} {o : Oper} {v : V} {d n : Nat} {t u e : TypeId} {td ed : TypeDesc} {tz tb ez eb : Nat} {tr er : Option Value} {x y : Operand} {ρ : Bool} {ops : Array Oper} {rest : List Oper}

noncomputable def lkr {α : Type} (l : List (Nat × α)) (i : Nat) : Option α := List.rec none (fun p _ ih => cond (Nat.beq p.1 i) (some p.2) ih) l
theorem lkr_eq {α : Type} (l : List (Nat × α)) (i : Nat) : lkr l i = lk l i := by
  induction l with
  | nil => rfl
  | cons p r ih =>
    obtain ⟨j, v⟩ := p
    show cond (Nat.beq j i) (some v) (lkr r i) = _
    rw [ih]; rfl
noncomputable def evX (s : Slots) : Operand → Option V
  | .tmp t => lkr s t
  | .const c => absV c
  | .func f => some (.d (.fn f))
  | .global _ => none
theorem evX_eq (s : Slots) (x : Operand) : evX s x = evO s x := by cases x <;> simp [evX, evO, lkr_eq]
theorem evX_ok {s : Slots} {x : Operand} {v : V} (h : evX s x = some v) : evO s x = some v := by rw [← evX_eq]; exact h

/-- A number that an operation comes to: as it is, if its kind holds it (or wrapped round). -/
def ar (wr : Bool) (k : IntKind) (i : Int) : Bool × V := match wr with
  | true => (true, .d (.int k (k.wrap i)))
  | false => (inRb k i, .d (.int k i))
theorem ar_ok {wr : Bool} {k : IntKind} {i : Int} {c : Bool} {v : V} (h : ar wr k i = (c, v)) (hc : c = true) : ∃ j, v = .d (.int k j) ∧ k.wrap i = j := by
  cases wr
  · simp only [ar, Prod.mk.injEq] at h
    obtain ⟨h1, rfl⟩ := h
    exact ⟨i, rfl, wrap_eq (inRb_iff.1 (h1 ▸ hc))⟩
  · simp only [ar, Prod.mk.injEq] at h
    exact ⟨_, h.2.symm, rfl⟩
/-- Of two numbers, when both are at hand (so that the kernel leaves it alone till then). -/
noncomputable def stk2 (f : Int → Int → Int) (i j : Int) : Int := Int.rec (motive := fun _ => Int) (fun a => Int.rec (motive := fun _ => Int) (fun b => f (.ofNat a) (.ofNat b)) (fun b => f (.ofNat a) (.negSucc b)) j) (fun a => Int.rec (motive := fun _ => Int) (fun b => f (.negSucc a) (.ofNat b)) (fun b => f (.negSucc a) (.negSucc b)) j) i
theorem stk2_eq (f : Int → Int → Int) (i j : Int) : stk2 f i j = f i j := by cases i <;> cases j <;> rfl
noncomputable def andK (k : IntKind) (i j : Int) : Int := stk2 (fun i j => k.wrap ((BitVec.ofInt k.bits i &&& BitVec.ofInt k.bits j).toNat)) i j
noncomputable def orK (k : IntKind) (i j : Int) : Int := stk2 (fun i j => k.wrap ((BitVec.ofInt k.bits i ||| BitVec.ofInt k.bits j).toNat)) i j
noncomputable def xorK (k : IntKind) (i j : Int) : Int := stk2 (fun i j => k.wrap ((BitVec.ofInt k.bits i ^^^ BitVec.ofInt k.bits j).toNat)) i j
noncomputable def andNotK (k : IntKind) (i j : Int) : Int := stk2 (fun i j => k.wrap ((BitVec.ofInt k.bits i &&& ~~~ (BitVec.ofInt k.bits j)).toNat)) i j
theorem andK_eq (k : IntKind) (i j : Int) : andK k i j = k.wrap ((BitVec.ofInt k.bits i &&& BitVec.ofInt k.bits j).toNat) := stk2_eq _ i j
theorem orK_eq (k : IntKind) (i j : Int) : orK k i j = k.wrap ((BitVec.ofInt k.bits i ||| BitVec.ofInt k.bits j).toNat) := stk2_eq _ i j
theorem xorK_eq (k : IntKind) (i j : Int) : xorK k i j = k.wrap ((BitVec.ofInt k.bits i ^^^ BitVec.ofInt k.bits j).toNat) := stk2_eq _ i j
theorem andNotK_eq (k : IntKind) (i j : Int) : andNotK k i j = k.wrap ((BitVec.ofInt k.bits i &&& ~~~ (BitVec.ofInt k.bits j)).toNat) := stk2_eq _ i j
/-- Two numbers. -/
noncomputable def binI (wr : Bool) (op : BinOp) (k : IntKind) (i j : Int) : Bool × V := match op with
  | .add => ar wr k (i + j)
  | .sub => ar wr k (i - j)
  | .mul => ar wr k (i * j)
  | .quo => (!decide (j = 0) && !decide (j = -1), .d (.int k (i.tdiv j)))
  | .rem => (!decide (j = 0), .d (.int k (i.tmod j)))
  | .and => (true, .d (.int k (andK k i j)))
  | .or => (true, .d (.int k (orK k i j)))
  | .xor => (true, .d (.int k (xorK k i j)))
  | .andNot => (true, .d (.int k (andNotK k i j)))
  | .lss => (true, vb (ltZ i j))
  | .leq => (true, vb (leZ i j))
  | .gtr => (true, vb (ltZ j i))
  | .geq => (true, vb (leZ j i))
  | .eql => (true, vb (decide (i = j)))
  | .neq => (true, vb (!decide (i = j)))
  | _ => (false, .un)
theorem not_dec {p : Prop} [Decidable p] (h : (!decide p) = true) : ¬ p := by simpa using h
theorem tdivR {q : IntKind} {i j : Int} (h : inR q i) (h0 : j ≠ 0) (h1 : j ≠ -1) (hs : loK q ≠ 0) : inR q (i.tdiv j) := by
  rw [inR_iff] at h ⊢
  have e : (i.tdiv j).natAbs = i.natAbs / j.natAbs := Int.natAbs_tdiv ..
  have h2 : 2 ≤ j.natAbs ∨ j = 1 := by omega
  rcases h2 with h2 | rfl
  · have h3 : i.natAbs / j.natAbs ≤ i.natAbs / 2 := Nat.div_le_div_left h2 (by omega)
    cases q <;> first | exact absurd rfl hs | (simp only [loK, hiK] at h ⊢; omega)
  · simp; exact h
theorem Yl.shlE {q q' : IntKind} {i j : Int} (ho : o.op = .binOp .shl t x y u) (hx : evO s x = some (.d (.int q i))) (hy : evO s y = some (.d (.int q' j))) (h0 : 0 ≤ j) (h1 : j ≤ q.bits) (hc : inR q (i * 2 ^ j.toNat)) : Yl ρ E k B s h o (.d (.int q (i * 2 ^ j.toNat))) :=
  Yl.shl ho hx hy h0 (by rw [Nat.min_eq_left (by omega)]; exact wrap_eq hc)
theorem Yl.shlW {q q' : IntKind} {i j : Int} (ho : o.op = .binOp .shl t x y u) (hx : evO s x = some (.d (.int q i))) (hy : evO s y = some (.d (.int q' j))) (h0 : 0 ≤ j) (h1 : j ≤ q.bits) : Yl ρ E k B s h o (.d (.int q (q.wrap (i * 2 ^ j.toNat)))) :=
  Yl.shl ho hx hy h0 (by rw [Nat.min_eq_left (by omega)])
theorem Yl.shrE {q q' : IntKind} {i j : Int} (ho : o.op = .binOp .shr t x y u) (hx : evO s x = some (.d (.int q i))) (hy : evO s y = some (.d (.int q' j))) (h0 : 0 ≤ j) (h1 : j ≤ q.bits) : Yl ρ E k B s h o (.d (.int q (i / 2 ^ j.toNat))) :=
  Yl.shr ho hx hy h0 (by rw [Nat.min_eq_left (by omega)]; exact Int.fdiv_eq_ediv_of_nonneg _ (by exact_mod_cast Nat.zero_le _))
theorem binI_ok {wr c : Bool} {op : BinOp} {q : IntKind} {i j : Int} (ho : o.op = .binOp op t x y u) (hx : evO s x = some (.d (.int q i))) (hy : evO s y = some (.d (.int q j))) (hs : op ≠ .shl ∧ op ≠ .shr) (h1 : binI wr op q i j = (c, v)) (hc : c = true) (hu : op = .quo → loK q ≠ 0) : Yl ρ E k B s h o v := by
  cases op <;> simp only [binI, Prod.mk.injEq] at h1
  · obtain ⟨z, rfl, hz⟩ := ar_ok h1 hc; exact Yl.add ho hx hy hz
  · obtain ⟨z, rfl, hz⟩ := ar_ok h1 hc; exact Yl.sub ho hx hy hz
  · obtain ⟨z, rfl, hz⟩ := ar_ok h1 hc; exact Yl.mul ho hx hy hz
  · obtain ⟨h1, rfl⟩ := h1
    subst h1
    obtain ⟨h2, h3⟩ := and_split hc
    intro U m a w r
    exact Yl.quo ho hx hy (not_dec h2) (wrap_eq (tdivR (r.evIntR hx) (not_dec h2) (not_dec h3) (hu rfl))) U m a w r
  · obtain ⟨h1, rfl⟩ := h1
    subst h1
    exact Yl.rem ho hx hy (not_dec hc) rfl
  · obtain ⟨_, rfl⟩ := h1; exact Yl.and ho hx hy (andK_eq _ _ _).symm
  · obtain ⟨_, rfl⟩ := h1; exact Yl.or ho hx hy (orK_eq _ _ _).symm
  · obtain ⟨_, rfl⟩ := h1; exact Yl.xor ho hx hy (xorK_eq _ _ _).symm
  · exact absurd rfl hs.1
  · exact absurd rfl hs.2
  · obtain ⟨_, rfl⟩ := h1; exact Yl.andNot ho hx hy (andNotK_eq _ _ _).symm
  · obtain ⟨_, rfl⟩ := h1; exact Yl.eql ho hx hy
  · obtain ⟨_, rfl⟩ := h1; exact Yl.neq ho hx hy
  · obtain ⟨_, rfl⟩ := h1; rw [ltZ_eq]; exact Yl.lss ho hx hy
  · obtain ⟨_, rfl⟩ := h1; rw [leZ_eq]; exact Yl.leq ho hx hy
  · obtain ⟨_, rfl⟩ := h1; rw [ltZ_eq]; exact Yl.gtr ho hx hy
  · obtain ⟨_, rfl⟩ := h1; rw [leZ_eq]; exact Yl.geq ho hx hy

/-- Pointers that are nil, or not. -/
def ptrN : V → Option Bool
  | .d .nilp => some true
  | .d (.lptr _) => some false
  | .ptr _ _ => some false
  | .el _ _ _ _ => some false
  | _ => none
def isPtrD : TypeDesc → Bool
  | .pointer _ => true
  | _ => false
theorem isPtrD_ok {d : TypeDesc} (h : isPtrD d = true) : ∃ e, d = .pointer e := by cases d <;> first | exact ⟨_, rfl⟩ | cases h
theorem ptrN_ok {U : Nat → Prop} {m : Nat → Option Nat} {n : Nat} {w : World} {v : V} {r : Value} {b : Bool} (h : VR U m n w v r) (hb : ptrN v = some b) : (b = true ∧ r = .pointer none) ∨ (b = false ∧ ∃ a, r = .pointer (some a)) := by
  cases h with
  | d h => cases h <;> simp [ptrN] at hb <;> subst hb <;> simp
  | ptr => simp [ptrN] at hb; subst hb; exact .inr ⟨rfl, _, rfl⟩
  | el => simp [ptrN] at hb; subst hb; exact .inr ⟨rfl, _, rfl⟩
  | _ => simp [ptrN] at hb
theorem ptr_equalIn {p1 p2 : Option Addr} {el : TypeId} (ht : lk E.tab t = some ⟨.pointer el, tz, tb, tr⟩) (hb : p1 = none ∨ p2 = none) (d : Nat) (w' : World) : (Op.equalIn (d + 1) t (.pointer p1) (.pointer p2)).run E.P w' = .ok (p1.isNone && p2.isNone) w' := by
  have hu := und ht w'
  unfold Op.equalIn
  rw [Sem.run_bind, hu]
  cases p1 <;> cases p2 <;> simp_all
theorem ptr_equal {b1 b2 : Bool} {v1 v2 : V} {r1 r2 : Value} (ht : lk E.tab t = some ⟨td, tz, tb, tr⟩) (hd : isPtrD td = true) (h1 : VR U m n w v1 r1) (h2 : VR U m n w v2 r2) (e1 : ptrN v1 = some b1) (e2 : ptrN v2 = some b2) (hb : (b1 || b2) = true) (w' : World) : (Op.equal t r1 r2).run E.P w' = .ok (b1 && b2) w' := by
  obtain ⟨el, rfl⟩ := isPtrD_ok hd
  rcases ptrN_ok h1 e1 with ⟨rfl, rfl⟩ | ⟨rfl, a1, rfl⟩ <;> rcases ptrN_ok h2 e2 with ⟨rfl, rfl⟩ | ⟨rfl, a2, rfl⟩
  · exact ptr_equalIn ht (.inl rfl) 9999 w'
  · exact ptr_equalIn ht (.inl rfl) 9999 w'
  · exact ptr_equalIn ht (.inr rfl) 9999 w'
  · cases hb
theorem Yl.eqP {b1 b2 : Bool} {v1 v2 : V} (ho : o.op = .binOp .eql t x y u) (hx : evO s x = some v1) (hy : evO s y = some v2) (ht : lk E.tab t = some ⟨td, tz, tb, tr⟩) (hd : isPtrD td = true) (e1 : ptrN v1 = some b1) (e2 : ptrN v2 = some b2) (hb : (b1 || b2) = true) : Yl ρ E k B s h o (vb (b1 && b2)) := fun U m a w r => by
  have h1 := r.opnd hx
  have h2 := r.opnd hy
  refine ⟨.bool (b1 && b2), .d (.bool _), fun w' _ => ?_⟩
  have e := ptr_equal ht hd h1 h2 e1 e2 hb w'
  have g1 : ∃ p, a.eval x = .pointer p := by rcases ptrN_ok h1 e1 with ⟨_, h⟩ | ⟨_, _, h⟩ <;> exact ⟨_, h⟩
  have g2 : ∃ p, a.eval y = .pointer p := by rcases ptrN_ok h2 e2 with ⟨_, h⟩ | ⟨_, _, h⟩ <;> exact ⟨_, h⟩
  obtain ⟨p1, g1⟩ := g1
  obtain ⟨p2, g2⟩ := g2
  rw [g1, g2] at e
  simp only [execOp, ho, g1, g2, Sem.run_bind, eqGuard, binOp, Sem.run_pure, Result.andThen_ok]
  simp
  rw [e]
  simp
theorem Yl.neqP {b1 b2 : Bool} {v1 v2 : V} (ho : o.op = .binOp .neq t x y u) (hx : evO s x = some v1) (hy : evO s y = some v2) (ht : lk E.tab t = some ⟨td, tz, tb, tr⟩) (hd : isPtrD td = true) (e1 : ptrN v1 = some b1) (e2 : ptrN v2 = some b2) (hb : (b1 || b2) = true) : Yl ρ E k B s h o (vb (!(b1 && b2))) := fun U m a w r => by
  have h1 := r.opnd hx
  have h2 := r.opnd hy
  refine ⟨.bool (!(b1 && b2)), .d (.bool _), fun w' _ => ?_⟩
  have e := ptr_equal ht hd h1 h2 e1 e2 hb w'
  have g1 : ∃ p, a.eval x = .pointer p := by rcases ptrN_ok h1 e1 with ⟨_, h⟩ | ⟨_, _, h⟩ <;> exact ⟨_, h⟩
  have g2 : ∃ p, a.eval y = .pointer p := by rcases ptrN_ok h2 e2 with ⟨_, h⟩ | ⟨_, _, h⟩ <;> exact ⟨_, h⟩
  obtain ⟨p1, g1⟩ := g1
  obtain ⟨p2, g2⟩ := g2
  rw [g1, g2] at e
  simp only [execOp, ho, g1, g2, Sem.run_bind, eqGuard, binOp, Sem.run_pure, Result.andThen_ok]
  simp
  rw [e]
  simp
/-- Slices that are nil, or surely not. -/
def slN : V → Option Bool
  | .d .nsl => some true
  | .d (.lst _ (_ :: _)) => some false
  | .nn b _ => some b
  | _ => none
def isSlD : TypeDesc → Bool
  | .slice _ => true
  | _ => false
theorem isSlD_ok {d : TypeDesc} (h : isSlD d = true) : ∃ e, d = .slice e := by cases d <;> first | exact ⟨_, rfl⟩ | cases h
theorem slN_ok {U : Nat → Prop} {m : Nat → Option Nat} {n : Nat} {w : World} {v : V} {r : Value} {b : Bool} (h : VR U m n w v r) (hb : slN v = some b) : (b = true ∧ ∃ k c, r = .slice none k c) ∨ (b = false ∧ ∃ a k c, r = .slice (some a) k c) := by
  cases h with
  | nn h hn =>
    obtain ⟨a, k, c, rfl, hn⟩ := hn
    simp [slN] at hb; subst hb
    cases a with
    | none => exact .inl ⟨hn.symm.trans rfl, _, _, rfl⟩
    | some a => exact .inr ⟨hn.symm.trans rfl, _, _, _, rfl⟩
  | d h =>
    cases h with
    | nsl => simp [slN] at hb; subst hb; exact .inl ⟨rfl, _, _, rfl⟩
    | @lst k cs A cap f hk hc ha hv =>
      cases cs with
      | nil => simp [slN] at hb
      | cons c r =>
        simp [slN] at hb; subst hb
        obtain ⟨ad, e, _⟩ := ha 0 (by simp)
        subst e; exact .inr ⟨rfl, _, _, _, rfl⟩
    | _ => simp [slN] at hb
  | _ => simp [slN] at hb
theorem sl_equalIn {p1 p2 : Option Addr} {k1 c1 k2 c2 : Nat} {el : TypeId} (ht : lk E.tab t = some ⟨.slice el, tz, tb, tr⟩) (hb : p1 = none ∨ p2 = none) (d : Nat) (w' : World) : (Op.equalIn (d + 1) t (.slice p1 k1 c1) (.slice p2 k2 c2)).run E.P w' = .ok (p1.isNone && p2.isNone) w' := by
  have hu := und ht w'
  unfold Op.equalIn
  rw [Sem.run_bind, hu]
  cases p1 <;> cases p2 <;> simp_all
theorem sl_equal {b1 b2 : Bool} {v1 v2 : V} {r1 r2 : Value} (ht : lk E.tab t = some ⟨td, tz, tb, tr⟩) (hd : isSlD td = true) (h1 : VR U m n w v1 r1) (h2 : VR U m n w v2 r2) (e1 : slN v1 = some b1) (e2 : slN v2 = some b2) (hb : (b1 || b2) = true) (w' : World) : (Op.equal t r1 r2).run E.P w' = .ok (b1 && b2) w' := by
  obtain ⟨el, rfl⟩ := isSlD_ok hd
  rcases slN_ok h1 e1 with ⟨rfl, k1, c1, rfl⟩ | ⟨rfl, a1, k1, c1, rfl⟩ <;> rcases slN_ok h2 e2 with ⟨rfl, k2, c2, rfl⟩ | ⟨rfl, a2, k2, c2, rfl⟩
  · exact sl_equalIn ht (.inl rfl) 9999 w'
  · exact sl_equalIn ht (.inl rfl) 9999 w'
  · exact sl_equalIn ht (.inr rfl) 9999 w'
  · cases hb
theorem sl_val {v : V} {r : Value} {b : Bool} (h : VR U m n w v r) (e : slN v = some b) : ∃ p k c, r = .slice p k c := by
  rcases slN_ok h e with ⟨_, k, c, h⟩ | ⟨_, a, k, c, h⟩ <;> exact ⟨_, _, _, h⟩
theorem Yl.eqS {b1 b2 : Bool} {v1 v2 : V} (ho : o.op = .binOp .eql t x y u) (hx : evO s x = some v1) (hy : evO s y = some v2) (ht : lk E.tab t = some ⟨td, tz, tb, tr⟩) (hd : isSlD td = true) (e1 : slN v1 = some b1) (e2 : slN v2 = some b2) (hb : (b1 || b2) = true) : Yl ρ E k B s h o (vb (b1 && b2)) := fun U m a w r => by
  have h1 := r.opnd hx
  have h2 := r.opnd hy
  refine ⟨.bool (b1 && b2), .d (.bool _), fun w' _ => ?_⟩
  have e := sl_equal ht hd h1 h2 e1 e2 hb w'
  obtain ⟨p1, k1, c1, g1⟩ := sl_val h1 e1
  obtain ⟨p2, k2, c2, g2⟩ := sl_val h2 e2
  rw [g1, g2] at e
  simp only [execOp, ho, g1, g2, Sem.run_bind, eqGuard, binOp, Sem.run_pure, Result.andThen_ok]
  simp
  rw [e]
  simp
theorem Yl.neqS {b1 b2 : Bool} {v1 v2 : V} (ho : o.op = .binOp .neq t x y u) (hx : evO s x = some v1) (hy : evO s y = some v2) (ht : lk E.tab t = some ⟨td, tz, tb, tr⟩) (hd : isSlD td = true) (e1 : slN v1 = some b1) (e2 : slN v2 = some b2) (hb : (b1 || b2) = true) : Yl ρ E k B s h o (vb (!(b1 && b2))) := fun U m a w r => by
  have h1 := r.opnd hx
  have h2 := r.opnd hy
  refine ⟨.bool (!(b1 && b2)), .d (.bool _), fun w' _ => ?_⟩
  have e := sl_equal ht hd h1 h2 e1 e2 hb w'
  obtain ⟨p1, k1, c1, g1⟩ := sl_val h1 e1
  obtain ⟨p2, k2, c2, g2⟩ := sl_val h2 e2
  rw [g1, g2] at e
  simp only [execOp, ho, g1, g2, Sem.run_bind, eqGuard, binOp, Sem.run_pure, Result.andThen_ok]
  simp
  rw [e]
  simp
/-- The types that may be compared, with the kinds of their cells. -/
structure EqT (E : Env) (l : List (Nat × List Kd)) : Prop where
  ok : ∀ t ks, lk l t = some ks → EqTy E 10000 t ks ∧ E.P.eqGuardType E.P.depth t = false
def binE (tab : List (Nat × Ty)) (eqs : List (Nat × List Kd)) (t : Nat) (neg : Bool) (x y : V) : Option (Bool × V) :=
  match x, y with
  | .agg cs, .agg ds => match lk eqs t, lk tab t with
    | some ks, some ty => match aggD ty.d, eqF ks cs ds with
      | true, some bs => some (true, vb (match neg with | true => !allB bs | false => allB bs))
      | _, _ => none
    | _, _ => none
  | .d (.bool p), .d (.bool q) => match lk tab t with
    | some ⟨.bool, _, _, _⟩ => some (true, vb (match neg with | true => !decide (p = q) | false => decide (p = q)))
    | _ => none
  | .d (.str p), .d (.str q) => some (true, vb (match neg with | true => !(p.toList == q.toList) | false => p.toList == q.toList))
  | x, y => match ptrN x, ptrN y, lk tab t with
    | some b1, some b2, some ty => match isPtrD ty.d, b1 || b2 with
      | true, true => some (true, vb (match neg with | true => !(b1 && b2) | false => b1 && b2))
      | _, _ => none
    | _, _, some ty => match slN x, slN y with
      | some b1, some b2 => match isSlD ty.d, b1 || b2 with
        | true, true => some (true, vb (match neg with | true => !(b1 && b2) | false => b1 && b2))
        | _, _ => none
      | _, _ => none
    | _, _, _ => none
theorem binE_eql {eqs : List (Nat × List Kd)} {v1 v2 : V} {c : Bool} (he : EqT E eqs) (ho : o.op = .binOp .eql t x y u) (hx : evO s x = some v1) (hy : evO s y = some v2) (h1 : binE E.tab eqs t false v1 v2 = some (c, v)) : Yl ρ E k B s h o v := by
  unfold binE at h1
  split at h1
  · split at h1
    · rename_i ks ty hk ht
      split at h1
      · rename_i bs hg hb
        injection h1 with h1; simp only [Prod.mk.injEq] at h1; obtain ⟨_, rfl⟩ := h1
        obtain ⟨td, tz, tb, tr⟩ := ty
        exact Yl.eqA ho hx hy ht hg (he.ok _ _ hk).1 (he.ok _ _ hk).2 hb
      · cases h1
    · cases h1
  · split at h1
    · rename_i ht
      injection h1 with h1; simp only [Prod.mk.injEq] at h1; obtain ⟨_, rfl⟩ := h1
      exact Yl.eqlB ho hx hy ht
    · cases h1
  · injection h1 with h1; simp only [Prod.mk.injEq] at h1; obtain ⟨_, rfl⟩ := h1
    exact Yl.eqlStr ho hx hy
  · split at h1
    · rename_i ty e1 e2 ht
      split at h1
      · rename_i hd hb
        injection h1 with h1; simp only [Prod.mk.injEq] at h1; obtain ⟨_, rfl⟩ := h1
        obtain ⟨td, tz, tb, tr⟩ := ty
        exact Yl.eqP ho hx hy ht hd e1 e2 hb
      · cases h1
    · rename_i ty ht _
      split at h1
      · rename_i e1 e2
        split at h1
        · rename_i hd hb
          injection h1 with h1; simp only [Prod.mk.injEq] at h1; obtain ⟨_, rfl⟩ := h1
          obtain ⟨td, tz, tb, tr⟩ := ty
          exact Yl.eqS ho hx hy ht hd e1 e2 hb
        · cases h1
      · cases h1
    · cases h1
theorem binE_neq {eqs : List (Nat × List Kd)} {v1 v2 : V} {c : Bool} (he : EqT E eqs) (ho : o.op = .binOp .neq t x y u) (hx : evO s x = some v1) (hy : evO s y = some v2) (h1 : binE E.tab eqs t true v1 v2 = some (c, v)) : Yl ρ E k B s h o v := by
  unfold binE at h1
  split at h1
  · split at h1
    · rename_i ks ty hk ht
      split at h1
      · rename_i bs hg hb
        injection h1 with h1; simp only [Prod.mk.injEq] at h1; obtain ⟨_, rfl⟩ := h1
        obtain ⟨td, tz, tb, tr⟩ := ty
        exact Yl.neqA ho hx hy ht hg (he.ok _ _ hk).1 (he.ok _ _ hk).2 hb
      · cases h1
    · cases h1
  · split at h1
    · rename_i ht
      injection h1 with h1; simp only [Prod.mk.injEq] at h1; obtain ⟨_, rfl⟩ := h1
      exact Yl.neqB ho hx hy ht
    · cases h1
  · injection h1 with h1; simp only [Prod.mk.injEq] at h1; obtain ⟨_, rfl⟩ := h1
    exact Yl.neqStr ho hx hy
  · split at h1
    · rename_i ty e1 e2 ht
      split at h1
      · rename_i hd hb
        injection h1 with h1; simp only [Prod.mk.injEq] at h1; obtain ⟨_, rfl⟩ := h1
        obtain ⟨td, tz, tb, tr⟩ := ty
        exact Yl.neqP ho hx hy ht hd e1 e2 hb
      · cases h1
    · rename_i ty ht _
      split at h1
      · rename_i e1 e2
        split at h1
        · rename_i hd hb
          injection h1 with h1; simp only [Prod.mk.injEq] at h1; obtain ⟨_, rfl⟩ := h1
          obtain ⟨td, tz, tb, tr⟩ := ty
          exact Yl.neqS ho hx hy ht hd e1 e2 hb
        · cases h1
      · cases h1
    · cases h1
def bitsK : IntKind → Int
  | .i8 | .u8 => 8 | .i16 | .u16 => 16 | .i32 | .u32 => 32 | .i64 | .u64 => 64
theorem bitsK_eq (k : IntKind) : bitsK k = k.bits := by cases k <;> rfl
/-- Any two values. -/
noncomputable def binX (tab : List (Nat × Ty)) (eqs : List (Nat × List Kd)) (wr : Bool) (op : BinOp) (t : Nat) (x y : V) : Option (Bool × V) :=
  match op with
  | .shl => match x, y with
    | .d (.int k i), .d (.int _ j) => match wr with
      | true => some (leZ 0 j && leZ j (bitsK k), .d (.int k (k.wrap (i * 2 ^ j.toNat))))
      | false => some ((leZ 0 j && leZ j (bitsK k)) && inRb k (i * 2 ^ j.toNat), .d (.int k (i * 2 ^ j.toNat)))
    | _, _ => none
  | .shr => match x, y with
    | .d (.int k i), .d (.int _ j) => some (leZ 0 j && leZ j (bitsK k), .d (.int k (i / 2 ^ j.toNat)))
    | _, _ => none
  | op => match x with
    | .d (.int k i) => match y with
      | .d (.int k' j) => match sameK k k' with
        | true => match op with
          | .quo => match k with
            | .i64 | .i32 | .i16 | .i8 => some (binI wr op k i j)
            | _ => none
          | op => some (binI wr op k i j)
        | false => none
      | _ => none
    | x => match op with
      | .eql => binE tab eqs t false x y
      | .neq => binE tab eqs t true x y
      | _ => none
theorem binX_ok {eqs : List (Nat × List Kd)} {wr : Bool} {op : BinOp} {v1 v2 : V} {c : Bool} (he : EqT E eqs) (ho : o.op = .binOp op t x y u) (hx : evO s x = some v1) (hy : evO s y = some v2) (h1 : binX E.tab eqs wr op t v1 v2 = some (c, v)) (hc : c = true) : Yl ρ E k B s h o v := by
  unfold binX at h1
  split at h1
  · split at h1
    · split at h1
      · injection h1 with h1; simp only [Prod.mk.injEq] at h1; obtain ⟨h1, rfl⟩ := h1
        subst h1
        obtain ⟨h2, h3⟩ := and_split hc
        simp only [leZ_eq, decide_eq_true_eq, bitsK_eq] at h2 h3
        exact Yl.shlW ho hx hy h2 h3
      · injection h1 with h1; simp only [Prod.mk.injEq] at h1; obtain ⟨h1, rfl⟩ := h1
        subst h1
        obtain ⟨h2, h4⟩ := and_split hc
        obtain ⟨h2, h3⟩ := and_split h2
        simp only [leZ_eq, decide_eq_true_eq, bitsK_eq] at h2 h3
        exact Yl.shlE ho hx hy h2 h3 (inRb_iff.1 h4)
    · cases h1
  · split at h1
    · injection h1 with h1; simp only [Prod.mk.injEq] at h1; obtain ⟨h1, rfl⟩ := h1
      subst h1
      obtain ⟨h2, h3⟩ := and_split hc
      simp only [leZ_eq, decide_eq_true_eq, bitsK_eq] at h2 h3
      exact Yl.shrE ho hx hy h2 h3
    · cases h1
  · rename_i hs1 hs2
    split at h1
    · split at h1
      · split at h1
        · rename_i hk
          have := sameK_eq hk
          subst this
          split at h1
          · split at h1 <;> first
              | (injection h1 with h1; exact binI_ok ho hx hy ⟨hs1, hs2⟩ h1 hc (fun _ => by decide))
              | cases h1
          · rename_i hq
            injection h1 with h1
            exact binI_ok ho hx hy ⟨hs1, hs2⟩ h1 hc (fun h => absurd h hq)
        · cases h1
      · cases h1
    · split at h1
      · exact binE_eql he ho hx hy h1
      · exact binE_neq he ho hx hy h1
      · cases h1
end
end Go.Proofs.Ythkoinngmcpjgaa

/-
  The reckoner: what any operation yields that changes nothing. Conditions: none.
-/
namespace Go.Proofs.Ythkoinngmcpjgaa
open Go.RowKit

section
variable {E : Env} {k B : Nat} {s s' : Slots} {h h' : Hp} {Q Q' : Post} {U : Nat → Prop} {m : Nat → Option Nat} {a : Act} {w w' : World} {o : Oper} {v : V} {d n : Nat} {t u e : TypeId} {td ed : TypeDesc} {tz tb ez eb : Nat} {tr er : Option Value} {x y : Operand} {ρ : Bool} {ops : Array Oper} {rest : List Oper}

/-- An address of an element's cell. -/
theorem SR.evEl (r : SR k B U m s h a w) {x : Operand} {e id i j : Nat} (hv : evO s x = some (.el e id i j)) : ∃ b, m id = some b ∧ a.eval x = .pointer (some ⟨b, i * e + j, none⟩) ∧ id < h.n := by
  have h1 := r.opnd hv
  generalize a.eval x = y at h1
  cases h1 with | el h2 h3 => exact ⟨_, h3, rfl, h2⟩
theorem Yl.loadE {e id i j n : Nat} {f : Nat → List D} {l : List D} (ho : o.op = .load t x) (ht : lk E.tab t = some ⟨td, tz, tb, tr⟩) (hx : evO s x = some (.el e id i j)) (hb : lk h.b id = some (some (.rows n e f))) (hi : i < n)
    (hl : ((f i).drop j).take (bif aggD td then tz else 1) = l) (hz : Nat.beq l.length (bif aggD td then tz else 1) = true) : Yl true E k B s h o (mk (aggD td) (l.map .d)) := fun U m a w r => by
  obtain ⟨b, h1, h2, h3⟩ := r.evEl hx
  obtain ⟨_, hbr⟩ := r.heap.live id _ hb
  rw [h1] at hbr
  cases hbr with | rows hlen hbr =>
  obtain ⟨arr, et, g1, g2, g3⟩ := hbr
  have hz' := Nat.eq_of_beq_eq_true hz
  have hin : ∀ p, p < l.length → ∃ c rv, l[p]? = some c ∧ arr[i * e + j + p]? = some rv ∧ DR U w c rv := fun p hp => by
    have e1 := List.getElem?_eq_getElem hp
    have e2 := take_get hl e1
    have hr : j + p < e := by rw [← hlen i hi]; exact (List.getElem?_eq_some_iff.1 e2).1
    have e2' : (flatN n f)[i * e + j + p]? = some l[p] := by rw [Nat.add_assoc, flatN_get hlen hi hr]; exact e2
    have e3 : i * e + j + p < arr.size := Nat.lt_of_lt_of_le (List.getElem?_eq_some_iff.1 e2').1 g2
    exact ⟨_, _, e1, Array.getElem?_eq_getElem e3, g3 _ _ _ e2' (Array.getElem?_eq_getElem e3)⟩
  have hN : l.length = if aggD td = true then tz else 1 := by rw [hz']; cases aggD td <;> rfl
  refine ⟨_, mk_ok (f := fun p => arr.getD (i * e + j + p) undef) (by rw [List.length_map]; exact hN) (fun p c hc => ?_), fun w' hw => ?_⟩
  · rw [List.getElem?_map] at hc
    obtain ⟨c0, hc0, rfl⟩ := Option.map_eq_some_iff.1 hc
    obtain ⟨c', rv, e1, e2, e3⟩ := hin p (List.getElem?_eq_some_iff.1 hc0).1
    rw [hc0] at e1; injection e1 with e1; subst e1
    rw [Array.getD_eq_getD_getElem?, e2]; exact .d e3
  · have := run_var (P := E.P) (w := w') (t := t) (ad := ⟨b, i * e + j, none⟩) (f := fun p => arr.getD (i * e + j + p) undef) (isagg ht w') (szo ht w') (fun p hp => by
      obtain ⟨c', rv, e1, e2, e3⟩ := hin p (by rw [hN]; exact hp)
      rw [Addr.add_lit, cell_of_arr ((hw rfl).le g1), Array.getD_eq_getD_getElem?, e2]; rfl)
    simp only [execOp, ho, Instr.loadAt, h2, Instr.sureAddr, Sem.run_bind, Sem.run_pure, Result.andThen_ok, this]
theorem Yl.fieldAddrE {e id i0 j i : Nat} {fs : Array Field} {f : Field} {fd : TypeDesc} {fz fb : Nat} {fr : Option Value} (ho : o.op = .fieldAddr t x i) (ht : lk E.tab t = some ⟨td, tz, tb, tr⟩) (hd : td = .struct fs) (hf : fs[i]? = some f) (htf : lk E.tab f.type = some ⟨fd, fz, fb, fr⟩) (hz : Nat.beq fz 0 = false)
    (hx : evO s x = some (.el e id i0 j)) : Yl ρ E k B s h o (.el e id i0 (j + f.offset)) := fun U m a w r => by
  obtain ⟨b, h1, h2, h3⟩ := r.evEl hx
  refine ⟨_, .el h3 h1, fun w' _ => ?_⟩
  have hp := run_place (P := E.P) (w := w') (ad := ⟨b, i0 * e + j, none⟩) (szo htf w') (ne_of_beq hz)
  have hu := und ht w'
  rw [hd] at hu
  rw [Addr.add_lit] at hp
  simp [execOp, ho, Instr.fieldAt, h2, Instr.sureAddr, hu, hf, hp, Nat.add_assoc]
theorem Yl.indexE {id n : Nat} {q : IntKind} {i : Int} (ho : o.op = .indexAddr t x y) (ht : lk E.tab t = some ⟨td, tz, tb, tr⟩) (hd : td = .slice e) (hte : lk E.tab e = some ⟨ed, ez, eb, er⟩) (hx : evO s x = some (.sl ez id 0 n)) (hy : evO s y = some (.d (.int q i))) (h0 : 0 ≤ i) (h1 : i < n) : Yl ρ E k B s h o (.el ez id i.toNat 0) := fun U m a w r => by
  obtain ⟨rv, h2, h3⟩ := Yl.indexS (ρ := ρ) ho ht hd hte hx hy h0 h1 U m a w r
  refine ⟨rv, ?_, h3⟩
  cases h2 with | ptr g1 g2 =>
  have := VR.el (U := U) (w := w) (e := ez) (i := i.toNat) (j := 0) g1 g2
  simpa using this
noncomputable def loadX (tab : List (Nat × Ty)) (b : Heap) (t : Nat) (v : V) : Option (Bool × V) :=
  match lkr tab t with
  | some ty => match v with
    | .ptr id off => match lkr b id with
      | some (some (.cells cs)) => match dropN off cs with
        | some r => match takeN (nsize (aggD ty.d) ty.size) r with
          | some l => match mkV (aggD ty.d) l with | some v => some (true, v) | none => none
          | none => none
        | none => none
      | some (some (.dat cs)) => match dropN off cs with
        | some r => match takeN (nsize (aggD ty.d) ty.size) r with
          | some l => match mkV (aggD ty.d) (mapD l) with | some v => some (true, v) | none => none
          | none => none
        | none => none
      | _ => none
    | .el e id i j => match lkr b id with
      | some (some (.rows n e' f)) => match Nat.beq e e', dropN j (f i) with
        | true, some r => match takeN (nsize (aggD ty.d) ty.size) r with
          | some l => match mkV (aggD ty.d) (mapD l) with | some v => some (Nat.blt i n, v) | none => none
          | none => none
        | _, _ => none
      | _ => none
    | .d (.lptr cs) => match takeN (nsize (aggD ty.d) ty.size) cs with
      | some l => match mkV (aggD ty.d) (mapD l) with | some v => some (true, v) | none => none
      | none => none
    | _ => none
  | none => none
theorem loadX_ok {t : TypeId} {x : Operand} {u : V} {c : Bool} (ho : o.op = .load t x) (hx : evO s x = some u) (h1 : loadX E.tab h.b t u = some (c, v)) (hc : c = true) : Yl true E k B s h o v := by
  unfold loadX at h1
  rw [lkr_eq] at h1
  split at h1
  · rename_i ty ht
    obtain ⟨td, tz, tb, tr⟩ := ty
    dsimp only at h1
    split at h1
    · rw [lkr_eq] at h1
      split at h1
      · rename_i hb
        split at h1
        · rename_i r hr
          split at h1
          · rename_i l hl
            split at h1
            · rename_i v' hm
              injection h1 with h1; simp only [Prod.mk.injEq] at h1; obtain ⟨_, rfl⟩ := h1
              obtain ⟨e1, _⟩ := dropN_ok hr
              obtain ⟨e2, e3⟩ := takeN_ok hl
              rw [nsize_eq] at e2 e3
              rw [← mkV_ok hm]
              exact Yl.load ho ht hx hb (by rw [e1]; exact e2) (by rw [e3]; exact Nat.beq_refl _)
            · cases h1
          · cases h1
        · cases h1
      · rename_i hb
        split at h1
        · rename_i r hr
          split at h1
          · rename_i l hl
            split at h1
            · rename_i v' hm
              injection h1 with h1; simp only [Prod.mk.injEq] at h1; obtain ⟨_, rfl⟩ := h1
              obtain ⟨e1, _⟩ := dropN_ok hr
              obtain ⟨e2, e3⟩ := takeN_ok hl
              rw [nsize_eq] at e2 e3
              rw [← mkV_ok hm, mapD_eq]
              exact Yl.loadD ho ht hx hb (by rw [e1]; exact e2) (by rw [e3]; exact Nat.beq_refl _)
            · cases h1
          · cases h1
        · cases h1
      · cases h1
    · rw [lkr_eq] at h1
      split at h1
      · rename_i hb
        split at h1
        · rename_i r he hr
          split at h1
          · rename_i l hl
            split at h1
            · rename_i v' hm
              injection h1 with h1; simp only [Prod.mk.injEq] at h1; obtain ⟨h1, rfl⟩ := h1
              subst h1
              have he := Nat.eq_of_beq_eq_true he
              subst he
              obtain ⟨e1, _⟩ := dropN_ok hr
              obtain ⟨e2, e3⟩ := takeN_ok hl
              rw [nsize_eq] at e2 e3
              rw [← mkV_ok hm, mapD_eq]
              exact Yl.loadE ho ht hx hb (Nat.le_of_ble_eq_true hc) (by rw [e1]; exact e2) (by rw [e3]; exact Nat.beq_refl _)
            · cases h1
          · cases h1
        · cases h1
      · cases h1
    · split at h1
      · rename_i l hl
        split at h1
        · rename_i v' hm
          injection h1 with h1; simp only [Prod.mk.injEq] at h1; obtain ⟨_, rfl⟩ := h1
          obtain ⟨e2, e3⟩ := takeN_ok hl
          rw [nsize_eq] at e2 e3
          rw [← mkV_ok hm, mapD_eq]
          exact Yl.loadL ho ht hx e2 (by rw [e3]; exact Nat.beq_refl _)
        · cases h1
      · cases h1
    · cases h1
  · cases h1
/-- A field's offset, and whether it is made of several cells, and how many. -/
noncomputable def fieldI (tab : List (Nat × Ty)) (t i : Nat) : Option (Nat × Bool × Nat) :=
  match lkr tab t with
  | some ty => match fieldsOf ty.d with
    | some fs => match getN fs i with
      | some f => match lkr tab f.type with
        | some tf => some (f.offset, aggD tf.d, tf.size)
        | none => none
      | none => none
    | none => none
  | none => none
theorem fieldI_ok {t i off z : Nat} {g : Bool} (h1 : fieldI E.tab t i = some (off, g, z)) : ∃ td tz tb tr fs f fd fb fr, lk E.tab t = some ⟨td, tz, tb, tr⟩ ∧ td = .struct fs ∧ fs[i]? = some f ∧ lk E.tab f.type = some ⟨fd, z, fb, fr⟩ ∧ f.offset = off ∧ aggD fd = g := by
  unfold fieldI at h1
  rw [lkr_eq] at h1
  split at h1
  · rename_i ty ht
    split at h1
    · rename_i fs hfs
      obtain ⟨fa, e1, e2⟩ := fieldsOf_ok hfs
      split at h1
      · rename_i f hf
        rw [getN_eq] at hf
        have hf' : fa[i]? = some f := by rw [← Array.getElem?_toList, e2]; exact hf
        rw [lkr_eq] at h1
        split at h1
        · rename_i tf htf
          injection h1 with h1; simp only [Prod.mk.injEq] at h1; obtain ⟨g1, g2, g3⟩ := h1
          obtain ⟨td, tz, tb, tr⟩ := ty
          obtain ⟨fd, fz, fb, fr⟩ := tf
          dsimp only at *
          subst g3
          exact ⟨td, tz, tb, tr, fa, f, fd, fb, fr, ht, e1, hf', htf, g1, g2⟩
        · cases h1
      · cases h1
    · cases h1
  · cases h1
noncomputable def fieldAddrX (tab : List (Nat × Ty)) (t i : Nat) (v : V) : Option (Bool × V) :=
  match fieldI tab t i with
  | some (off, _, z) => match z with
    | 0 => none
    | _ + 1 => match v with
      | .ptr id o => some (true, .ptr id (o + off))
      | .el e id j r => some (true, .el e id j (r + off))
      | .d (.lptr cs) => match dropN off cs with
        | some r => some (true, .d (.lptr r))
        | none => none
      | _ => none
  | none => none
theorem fieldAddrX_ok {t : TypeId} {i : Nat} {x : Operand} {u : V} {c : Bool} (ho : o.op = .fieldAddr t x i) (hx : evO s x = some u) (h1 : fieldAddrX E.tab t i u = some (c, v)) : Yl ρ E k B s h o v := by
  unfold fieldAddrX at h1
  split at h1
  · rename_i off g z hf
    obtain ⟨td, tz, tb, tr, fs, f, fd, fb, fr, g1, g2, g3, g4, g5, g6⟩ := fieldI_ok hf
    subst g5
    split at h1
    · cases h1
    · have hz : Nat.beq (Nat.succ ‹Nat›) 0 = false := rfl
      split at h1
      · injection h1 with h1; simp only [Prod.mk.injEq] at h1; obtain ⟨_, rfl⟩ := h1
        exact Yl.fieldAddr ho g1 g2 g3 g4 hz hx
      · injection h1 with h1; simp only [Prod.mk.injEq] at h1; obtain ⟨_, rfl⟩ := h1
        exact Yl.fieldAddrE ho g1 g2 g3 g4 hz hx
      · split at h1
        · rename_i r hr
          injection h1 with h1; simp only [Prod.mk.injEq] at h1; obtain ⟨_, rfl⟩ := h1
          obtain ⟨e3, _⟩ := dropN_ok hr
          rw [← e3]
          exact Yl.fieldAddrL ho g1 g2 g3 g4 hz hx
        · cases h1
      · cases h1
  · cases h1
noncomputable def fieldX (tab : List (Nat × Ty)) (t i : Nat) (v : V) : Option (Bool × V) :=
  match fieldI tab t i with
  | some (off, g, z) => match nsize g z with
    | 0 => none
    | n + 1 => match v with
      | .agg cs => match dropN off cs with
        | some r => match takeN (n + 1) r with
          | some l => match mkV g l with | some v => some (true, v) | none => none
          | none => none
        | none => none
      | _ => none
  | none => none
theorem fieldX_ok {t : TypeId} {i : Nat} {x : Operand} {u : V} {c : Bool} (ho : o.op = .field t x i) (hx : evO s x = some u) (h1 : fieldX E.tab t i u = some (c, v)) : Yl ρ E k B s h o v := by
  unfold fieldX at h1
  split at h1
  · rename_i off g z hf
    obtain ⟨td, tz, tb, tr, fs, f, fd, fb, fr, g1, g2, g3, g4, g5, g6⟩ := fieldI_ok hf
    subst g5; subst g6
    split at h1
    · cases h1
    · rename_i n hn
      rw [nsize_eq] at hn
      split at h1
      · split at h1
        · rename_i r hr
          split at h1
          · rename_i l hl
            split at h1
            · rename_i v' hm
              injection h1 with h1; simp only [Prod.mk.injEq] at h1; obtain ⟨_, rfl⟩ := h1
              obtain ⟨e3, _⟩ := dropN_ok hr
              obtain ⟨e4, e5⟩ := takeN_ok hl
              have hn' : n + 1 = bif aggD fd then z else 1 := hn.symm
              rw [hn'] at e4 e5
              rw [← mkV_ok hm]
              exact Yl.field ho g1 g2 g3 g4 (by rw [hn]; rfl) hx (by rw [e3]; exact e4) (by rw [e5]; exact Nat.beq_refl _)
            · cases h1
          · cases h1
        · cases h1
      · cases h1
  · cases h1
/-- An array's length, and its elements' type, or a slice's elements' type. -/
def arrD : TypeDesc → Option (Nat × Nat)
  | .array n e => some (n, e)
  | _ => none
def slD : TypeDesc → Option Nat
  | .slice e => some e
  | _ => none
theorem arrD_ok {d : TypeDesc} {n e : Nat} (h : arrD d = some (n, e)) : d = .array n e := by cases d <;> simp [arrD] at h; obtain ⟨rfl, rfl⟩ := h; rfl
theorem slD_ok {d : TypeDesc} {e : Nat} (h : slD d = some e) : d = .slice e := by cases d <;> simp [slD] at h; subst h; rfl
noncomputable def arrI (tab : List (Nat × Ty)) (t : Nat) : Option (Nat × Bool × Nat) :=
  match lkr tab t with
  | some ty => match arrD ty.d with
    | some (n, e) => match lkr tab e with
      | some te => some (n, aggD te.d, te.size)
      | none => none
    | none => none
  | none => none
noncomputable def slI (tab : List (Nat × Ty)) (t : Nat) : Option Nat :=
  match lkr tab t with
  | some ty => match slD ty.d with
    | some e => match lkr tab e with
      | some te => some te.size
      | none => none
    | none => none
  | none => none
theorem arrI_ok {t n z : Nat} {g : Bool} (h1 : arrI E.tab t = some (n, g, z)) : ∃ td tz tb tr e ed eb er, lk E.tab t = some ⟨td, tz, tb, tr⟩ ∧ td = .array n e ∧ lk E.tab e = some ⟨ed, z, eb, er⟩ ∧ aggD ed = g := by
  unfold arrI at h1
  rw [lkr_eq] at h1
  split at h1
  · rename_i ty ht
    split at h1
    · rename_i hd
      have hd := arrD_ok hd
      rw [lkr_eq] at h1
      split at h1
      · rename_i te hte
        injection h1 with h1; simp only [Prod.mk.injEq] at h1; obtain ⟨g1, g2, g3⟩ := h1
        obtain ⟨td, tz, tb, tr⟩ := ty
        obtain ⟨ed, ez, eb, er⟩ := te
        dsimp only at *
        subst g1; subst g3
        exact ⟨td, tz, tb, tr, _, ed, eb, er, ht, hd, hte, g2⟩
      · cases h1
    · cases h1
  · cases h1
theorem slI_ok {t z : Nat} (h1 : slI E.tab t = some z) : ∃ td tz tb tr e ed eb er, lk E.tab t = some ⟨td, tz, tb, tr⟩ ∧ td = .slice e ∧ lk E.tab e = some ⟨ed, z, eb, er⟩ := by
  unfold slI at h1
  rw [lkr_eq] at h1
  split at h1
  · rename_i ty ht
    split at h1
    · rename_i hd
      have hd := slD_ok hd
      rw [lkr_eq] at h1
      split at h1
      · rename_i te hte
        injection h1 with h1
        obtain ⟨td, tz, tb, tr⟩ := ty
        obtain ⟨ed, ez, eb, er⟩ := te
        dsimp only at *
        subst h1
        exact ⟨td, tz, tb, tr, _, ed, eb, er, ht, hd, hte⟩
      · cases h1
    · cases h1
  · cases h1
def inI (i : Int) (n : Nat) : Bool := leZ 0 i && ltZ i n
theorem inI_ok {i : Int} {n : Nat} (h : inI i n = true) : 0 ≤ i ∧ i < n := by
  obtain ⟨h1, h2⟩ := and_split h; rw [leZ_eq] at h1; rw [ltZ_eq] at h2; exact ⟨of_decide_eq_true h1, of_decide_eq_true h2⟩
noncomputable def indexX (tab : List (Nat × Ty)) (t : Nat) (v y : V) : Option (Bool × V) :=
  match y with
  | .d (.int _ i) => match arrI tab t with
    | some (n, g, z) => match nsize g z with
      | 0 => none
      | q + 1 => match v with
        | .agg cs => match dropN (i.toNat * z) cs with
          | some r => match takeN (q + 1) r with
            | some l => match mkV g l with | some v => some (inI i n, v) | none => none
            | none => none
          | none => none
        | _ => none
    | none => none
  | _ => none
theorem indexX_ok {t : TypeId} {v1 v2 : V} {c : Bool} (ho : o.op = .index t x y) (hx : evO s x = some v1) (hy : evO s y = some v2) (h1 : indexX E.tab t v1 v2 = some (c, v)) (hc : c = true) : Yl ρ E k B s h o v := by
  unfold indexX at h1
  split at h1
  · split at h1
    · rename_i n g z hf
      obtain ⟨td, tz, tb, tr, e, ed, eb, er, g1, g2, g3, g4⟩ := arrI_ok hf
      subst g4
      split at h1
      · cases h1
      · rename_i q hn
        rw [nsize_eq] at hn
        split at h1
        · split at h1
          · rename_i r hr
            split at h1
            · rename_i l hl
              split at h1
              · rename_i v' hm
                injection h1 with h1; simp only [Prod.mk.injEq] at h1; obtain ⟨h1, rfl⟩ := h1
                subst h1
                obtain ⟨h2, h3⟩ := inI_ok hc
                obtain ⟨e3, _⟩ := dropN_ok hr
                obtain ⟨e4, e5⟩ := takeN_ok hl
                have hn' : q + 1 = bif aggD ed then z else 1 := hn.symm
                rw [hn'] at e4 e5
                rw [← mkV_ok hm]
                exact Yl.index ho g1 g2 g3 (by rw [hn]; rfl) hx hy h2 h3 (by rw [e3]; exact e4) (by rw [e5]; exact Nat.beq_refl _)
              · cases h1
            · cases h1
          · cases h1
        · cases h1
    · cases h1
  · cases h1
noncomputable def indexAddrX (tab : List (Nat × Ty)) (b : Heap) (t : Nat) (v y : V) : Option (Bool × V) :=
  match y with
  | .d (.int _ i) => match v with
    | .d (.rows n e f) => match slI tab t with
      | some z => match Nat.beq e z, z with
        | true, _ + 1 => some (inI i n, .d (.lptr (f i.toNat)))
        | _, _ => none
      | none => none
    | .d (.lst n cs) => match slI tab t with
      | some z => match z with
        | 0 => none
        | q + 1 => match dropN (i.toNat * (q + 1)) cs with
          | some r => match takeN (q + 1) r with
            | some l => some (inI i n, .d (.lptr l))
            | none => none
          | none => none
      | none => none
    | .sl e id off n => match slI tab t with
      | some z => match Nat.beq z e, off, lkr b id with
        | true, 0, some (some (.rows _ _ _)) => some (inI i n, .el z id i.toNat 0)
        | true, off, _ => some (inI i n, .ptr id (off + i.toNat * z))
        | _, _, _ => none
      | none => none
    | .ptr id off => match arrI tab t with
      | some (n, _, z) => some (inI i n, .ptr id (off + i.toNat * z))
      | none => none
    | .d (.lptr cs) => match arrI tab t with
      | some (n, _, z) => match dropN (i.toNat * z) cs with
        | some r => match takeN z r with
          | some l => some (inI i n, .d (.lptr l))
          | none => none
        | none => none
      | none => none
    | _ => none
  | _ => none
theorem indexAddrX_ok {t : TypeId} {v1 v2 : V} {c : Bool} (ho : o.op = .indexAddr t x y) (hx : evO s x = some v1) (hy : evO s y = some v2) (h1 : indexAddrX E.tab h.b t v1 v2 = some (c, v)) (hc : c = true) : Yl ρ E k B s h o v := by
  unfold indexAddrX at h1
  split at h1
  · split at h1
    · split at h1
      · rename_i z hz
        obtain ⟨td, tz, tb, tr, e', ed, eb, er, g1, g2, g3⟩ := slI_ok hz
        split at h1
        · rename_i he
          have he := Nat.eq_of_beq_eq_true he
          injection h1 with h1; simp only [Prod.mk.injEq] at h1; obtain ⟨h1, rfl⟩ := h1
          subst h1
          obtain ⟨h2, h3⟩ := inI_ok hc
          subst he
          exact Yl.indexR ho g1 g2 g3 hx hy h2 h3 (by omega)
        · cases h1
      · cases h1
    · split at h1
      · rename_i z hz
        obtain ⟨td, tz, tb, tr, e', ed, eb, er, g1, g2, g3⟩ := slI_ok hz
        split at h1
        · cases h1
        · split at h1
          · rename_i r hr
            split at h1
            · rename_i l hl
              injection h1 with h1; simp only [Prod.mk.injEq] at h1; obtain ⟨h1, rfl⟩ := h1
              subst h1
              obtain ⟨h2, h3⟩ := inI_ok hc
              obtain ⟨e3, _⟩ := dropN_ok hr
              obtain ⟨e4, e5⟩ := takeN_ok hl
              exact Yl.indexL ho g1 g2 g3 hx hy h2 h3 (by rw [e3]; exact e4) (by rw [e5]; omega)
            · cases h1
          · cases h1
      · cases h1
    · split at h1
      · rename_i z hz
        obtain ⟨td, tz, tb, tr, e', ed, eb, er, g1, g2, g3⟩ := slI_ok hz
        split at h1
        · rename_i he _
          have he := Nat.eq_of_beq_eq_true he
          injection h1 with h1; simp only [Prod.mk.injEq] at h1; obtain ⟨h1, rfl⟩ := h1
          subst h1
          obtain ⟨h2, h3⟩ := inI_ok hc
          subst he
          exact Yl.indexE ho g1 g2 g3 hx hy h2 h3
        · rename_i he _
          have he := Nat.eq_of_beq_eq_true he
          injection h1 with h1; simp only [Prod.mk.injEq] at h1; obtain ⟨h1, rfl⟩ := h1
          subst h1
          obtain ⟨h2, h3⟩ := inI_ok hc
          subst he
          exact Yl.indexS ho g1 g2 g3 hx hy h2 h3
        · cases h1
      · cases h1
    · split at h1
      · rename_i n g z hz
        obtain ⟨td, tz, tb, tr, e', ed, eb, er, g1, g2, g3, _⟩ := arrI_ok hz
        injection h1 with h1; simp only [Prod.mk.injEq] at h1; obtain ⟨h1, rfl⟩ := h1
        subst h1
        obtain ⟨h2, h3⟩ := inI_ok hc
        exact Yl.indexA ho g1 g2 g3 hx hy h2 h3
      · cases h1
    · split at h1
      · rename_i n g z hz
        obtain ⟨td, tz, tb, tr, e', ed, eb, er, g1, g2, g3, _⟩ := arrI_ok hz
        split at h1
        · rename_i r hr
          split at h1
          · rename_i l hl
            injection h1 with h1; simp only [Prod.mk.injEq] at h1; obtain ⟨h1, rfl⟩ := h1
            subst h1
            obtain ⟨h2, h3⟩ := inI_ok hc
            obtain ⟨e3, _⟩ := dropN_ok hr
            obtain ⟨e4, _⟩ := takeN_ok hl
            exact Yl.indexLA ho g1 g2 g3 hx hy h2 h3 (by rw [e3]; exact e4)
          · cases h1
        · cases h1
      · cases h1
    · cases h1
  · cases h1
end
end Go.Proofs.Ythkoinngmcpjgaa
