/-
  The reckoner: conditions, calls, one operation of any kind. Conditions: none.
-/
import Derived.Test.YtmgckodihnmjoaaX8
set_option linter.unusedVariables false
set_option linter.unusedSimpArgs false
set_option maxRecDepth 20000
namespace Go.Proofs.Ytmgckodihnmjoaa
open Go.RowKit

/-- What must hold. `same`: two ways' outcomes are the same. -/
inductive Ob where
  | b (c : Bool)
  | p (P : Prop)
  | br (c : Bool) (x y : List Ob)
  | same (s1 s2 : Slots) (h1 h2 : Option Hp)
mutual
def Ob.all : Ob → Prop
  | .b c => c = true
  | .p P => P
  | .br c x y => (c = true → obsL x) ∧ (c = false → obsL y)
  | .same s1 s2 h1 h2 => s1 = s2 ∧ h1 = h2
def obsL : List Ob → Prop
  | [] => True
  | o :: r => o.all ∧ obsL r
end
mutual
/-- The same, as it is shown: without what is the same. -/
def Ob.vc : Ob → Prop → Prop
  | .b c, R => cond c R False
  | .p P, R => P ∧ R
  | .br c x y, R => (cond c (vcL x True) (vcL y True)) ∧ R
  | .same _ _ _ _, R => R
def vcL : List Ob → Prop → Prop
  | [], R => R
  | o :: r, R => o.vc (vcL r R)
end
abbrev Sm := Slots × Option Hp
mutual
/-- What must be the same: left (false), right (true). -/
def Ob.sm (q : Bool) : Ob → List Sm
  | .b _ => []
  | .p _ => []
  | .br _ x y => smL q x ++ smL q y
  | .same s1 s2 h1 h2 => [cond q (s2, h2) (s1, h1)]
def smL (q : Bool) : List Ob → List Sm
  | [] => []
  | o :: r => o.sm q ++ smL q r
end
mutual
theorem Ob.sm_len : ∀ o : Ob, (o.sm false).length = (o.sm true).length
  | .b _ => by simp [Ob.sm]
  | .p _ => by simp [Ob.sm]
  | .br _ x y => by simp only [Ob.sm, List.length_append, smL_len x, smL_len y]
  | .same .. => by simp [Ob.sm]
theorem smL_len : ∀ l : List Ob, (smL false l).length = (smL true l).length
  | [] => by simp [smL]
  | o :: r => by simp only [smL, List.length_append, Ob.sm_len o, smL_len r]
end
mutual
theorem Ob.vc_ok : ∀ (o : Ob) (R : Prop), o.sm false = o.sm true → o.vc R → o.all ∧ R
  | .b c, R, _, h => by
    unfold Ob.vc at h
    unfold Ob.all
    cases c
    · exact False.elim h
    · exact ⟨rfl, h⟩
  | .p P, R, _, h => by unfold Ob.vc at h; unfold Ob.all; exact h
  | .br c x y, R, hs, h => by
    unfold Ob.vc at h
    unfold Ob.all
    simp only [Ob.sm] at hs
    obtain ⟨hs1, hs2⟩ := List.append_inj hs (smL_len x)
    obtain ⟨h1, h2⟩ := h
    refine ⟨⟨fun e => ?_, fun e => ?_⟩, h2⟩
    · subst e; exact (vcL_ok x True hs1 h1).1
    · subst e; exact (vcL_ok y True hs2 h1).1
  | .same s1 s2 h1 h2, R, hs, h => by
    unfold Ob.vc at h
    unfold Ob.all
    simp only [Ob.sm, cond_true, cond_false, List.cons.injEq, Prod.mk.injEq, and_true] at hs
    exact ⟨hs, h⟩
theorem vcL_ok : ∀ (l : List Ob) (R : Prop), smL false l = smL true l → vcL l R → obsL l ∧ R
  | [], R, _, h => ⟨by unfold obsL; trivial, by unfold vcL at h; exact h⟩
  | o :: r, R, hs, h => by
    unfold vcL at h
    simp only [smL] at hs
    obtain ⟨hs1, hs2⟩ := List.append_inj hs (Ob.sm_len o)
    obtain ⟨h1, h2⟩ := Ob.vc_ok o _ hs1 h
    obtain ⟨h3, h4⟩ := vcL_ok r R hs2 h2
    exact ⟨by unfold obsL; exact ⟨h1, h3⟩, h4⟩
end
theorem obsL_cons {o : Ob} {r : List Ob} (h : obsL (o :: r)) : o.all ∧ obsL r := by unfold obsL at h; exact h
theorem obsL_b {c : Bool} {r : List Ob} (h : obsL (.b c :: r)) : c = true ∧ obsL r := by
  obtain ⟨h1, h2⟩ := obsL_cons h; unfold Ob.all at h1; exact ⟨h1, h2⟩
theorem obsL_app {l r : List Ob} (h : obsL (l ++ r)) : obsL l ∧ obsL r := by
  induction l with
  | nil => exact ⟨by unfold obsL; trivial, h⟩
  | cons o l ih =>
    obtain ⟨h1, h2⟩ := obsL_cons h
    obtain ⟨h3, h4⟩ := ih h2
    exact ⟨by unfold obsL; exact ⟨h1, h3⟩, h4⟩
theorem obsL_br {c : Bool} {x y r : List Ob} (h : obsL (.br c x y :: r)) : (c = true → obsL x) ∧ (c = false → obsL y) ∧ obsL r := by
  obtain ⟨h1, h2⟩ := obsL_cons h; unfold Ob.all at h1; exact ⟨h1.1, h1.2, h2⟩

section
variable {E : Env} {k B : Nat} {s s' : Slots} {h h' : Hp} {Q Q' : Post} {U : Nat → Prop} {m : Nat → Option Nat} {a : Act} {w w' : World} {o : Oper} {v : V} {d n : Nat} {t u e : TypeId} {td ed : TypeDesc} {tz tb ez eb : Nat} {tr er : Option Value} {x y : Operand} {ρ g : Bool} {ops : Array Oper} {rest : List Oper} {K K' : Slots → Hp → Prop}

theorem VLe.trans' {v1 v2 : V} (h1 : BLe h v v1) (h2 : VLe v1 v2) : BLe h v v2 := fun U m w r hH hv => h2 _ _ _ _ _ (h1 U m w r hH hv)
/-- Rows and variables at hand, as data. -/
noncomputable def lend1 (b : Heap) (v : V) : Bool × V :=
  match v with
  | .sl e id off n => match lkr b id with
    | some (some (.rows k e' f)) => match Nat.beq e e', off with
      | true, 0 => (decide (n ≤ k), .d (.rows n e f))
      | _, _ => (true, v)
    | some (some (.dat cs)) => match dropN off cs with
      | some r => match takeN (n * e) r with
        | some l => (true, .d (.lst n l))
        | none => (true, v)
      | none => (true, v)
    | some (some (.cells cs)) => match dropN off cs with
      | some r => match takeN (n * e) r with
        | some l => match unDs l with
          | some ds => (true, .d (.lst n ds))
          | none => (true, v)
        | none => (true, v)
      | none => (true, v)
    | _ => (true, v)
  | .ptr id off => match lkr b id with
    | some (some (.cells cs)) => match dropN off cs with
      | some r => match unDs r with
        | some ds => (true, .d (.lptr ds))
        | none => (true, v)
      | none => (true, v)
    | _ => (true, v)
  | _ => (true, v)
theorem lend1_ok {c : Bool} {v' : V} (h1 : lend1 h.b v = (c, v')) (hc : c = true) : BLe h v v' := by
  have refl : ∀ {c : Bool} {v' : V}, (true, v) = (c, v') → BLe h v v' := fun e => by
    simp only [Prod.mk.injEq] at e; obtain ⟨_, rfl⟩ := e; exact .le (.refl _)
  unfold lend1 at h1
  split at h1
  · rw [lkr_eq] at h1
    split at h1
    · rename_i hb
      split at h1
      · rename_i he
        have he := Nat.eq_of_beq_eq_true he
        subst he
        simp only [Prod.mk.injEq] at h1; obtain ⟨h1, rfl⟩ := h1
        subst h1
        have := BLe.rowR (h := h) (o := 0) hb (Nat.le_trans (Nat.le_of_eq (Nat.zero_add _)) (of_decide_eq_true hc))
        simpa using this
      · exact refl h1
    · rename_i hb
      split at h1
      · rename_i r hr
        split at h1
        · rename_i l hl
          simp only [Prod.mk.injEq] at h1; obtain ⟨_, rfl⟩ := h1
          obtain ⟨e1, _⟩ := dropN_ok hr
          obtain ⟨e2, e3⟩ := takeN_ok hl
          exact .row hb (by rw [e1]; exact e2) e3
        · exact refl h1
      · exact refl h1
    · rename_i hb
      split at h1
      · rename_i r hr
        split at h1
        · rename_i l hl
          split at h1
          · rename_i ds hds
            rw [unDs_eq] at hds
            simp only [Prod.mk.injEq] at h1; obtain ⟨_, rfl⟩ := h1
            obtain ⟨e1, _⟩ := dropN_ok hr
            obtain ⟨e2, e3⟩ := takeN_ok hl
            have e4 := unD_ok hds
            exact .rowC hb (by rw [e1, e2]; exact hds) (by rw [← e3, e4, List.length_map])
          · exact refl h1
        · exact refl h1
      · exact refl h1
    · exact refl h1
  · rw [lkr_eq] at h1
    split at h1
    · rename_i hb
      split at h1
      · rename_i r hr
        split at h1
        · rename_i ds hds
          rw [unDs_eq] at hds
          simp only [Prod.mk.injEq] at h1; obtain ⟨_, rfl⟩ := h1
          obtain ⟨e1, _⟩ := dropN_ok hr
          exact .var hb (by rw [e1]; exact hds)
        · exact refl h1
      · exact refl h1
    · exact refl h1
  · exact refl h1
/-- Lent, cell by cell. -/
structure BLs (h : Hp) (l l' : List V) : Prop where
  len : l.length = l'.length
  at_ : ∀ (j : Nat) (x x' : V), l[j]? = some x → l'[j]? = some x' → BLe h x x'
theorem BLe.agg {l l' : List V} (g : BLs h l l') : BLe h (.agg l) (.agg l') := fun U m w r hH hv => by
  cases hv with | agg hl hv =>
  refine .agg (by rw [← g.len]; exact hl) (fun j c v h1 h2 => ?_)
  have hj : j < l.length := by rw [g.len]; exact (List.getElem?_eq_some_iff.1 h1).1
  exact g.at_ j _ _ (List.getElem?_eq_getElem hj) h1 U m w v hH (hv j _ v (List.getElem?_eq_getElem hj) h2)
theorem BLs.row {l l' : List V} (g : BLs h l l') {U : Nat → Prop} {m : Nat → Option Nat} {w : World} {vs : Array Value} (hH : HR U m h.n h.b w) (hl : l.length = vs.size) (hv : ∀ (j : Nat) (x : V) (v : Value), l[j]? = some x → vs[j]? = some v → VR U m h.n w x v) : l'.length = vs.size ∧ ∀ (j : Nat) (x : V) (v : Value), l'[j]? = some x → vs[j]? = some v → VR (lent U m h.b) m h.n w x v :=
  ⟨by rw [← g.len]; exact hl, fun j x v h1 h2 => by
    have hj : j < l.length := by rw [g.len]; exact (List.getElem?_eq_some_iff.1 h1).1
    exact g.at_ j _ _ (List.getElem?_eq_getElem hj) h1 U m w v hH (hv j _ v (List.getElem?_eq_getElem hj) h2)⟩
theorem BLe.fn {f : FuncId} {a a' c c' : List V} (g1 : BLs h a a') (g2 : BLs h c c') : BLe h (.fn f a c) (.fn f a' c') := fun U m w r hH hv => by
  cases hv with | fn la lc ha hc =>
  obtain ⟨e1, e2⟩ := g1.row hH la ha
  obtain ⟨e3, e4⟩ := g2.row hH lc hc
  exact .fn e1 e3 e2 e4
noncomputable def lendL1 (b : Heap) : List V → Bool × List V :=
  List.rec (true, []) (fun v _ ih => match lend1 b v with | (c, v') => match ih with | (c', l) => (c && c', v' :: l))
theorem lendL1_ok : ∀ {l l' : List V} {c : Bool}, lendL1 h.b l = (c, l') → c = true → BLs h l l'
  | [], l', c, h1, hc => by
    have e : (true, ([] : List V)) = (c, l') := h1
    simp only [Prod.mk.injEq] at e; obtain ⟨_, rfl⟩ := e
    exact ⟨rfl, fun j x x' h => by simp at h⟩
  | v :: r, l', c, h1, hc => by
    have e : (match lend1 h.b v with | (c, v') => match lendL1 h.b r with | (c', l) => (c && c', v' :: l)) = (c, l') := h1
    generalize g1 : lend1 h.b v = p1 at e
    generalize g2 : lendL1 h.b r = p2 at e
    obtain ⟨c1, v1⟩ := p1
    obtain ⟨c2, l2⟩ := p2
    simp only [Prod.mk.injEq] at e; obtain ⟨e, rfl⟩ := e
    subst e
    obtain ⟨hc1, hc2⟩ := and_split hc
    have ih := lendL1_ok g2 hc2
    refine ⟨by simp [ih.len], fun j x x' q1 q2 => ?_⟩
    cases j with
    | zero => simp at q1 q2; subst q1; subst q2; exact lend1_ok g1 hc1
    | succ j => exact ih.at_ j x x' (by simpa using q1) (by simpa using q2)
/-- Arguments, lent: a struct's cells too. -/
noncomputable def lend2 (b : Heap) (v : V) : Bool × V :=
  match v with
  | .agg cs => match lendL1 b cs with | (c, l) => (c, .agg l)
  | .fn f a cs => match lendL1 b a, lendL1 b cs with | (c1, l1), (c2, l2) => (c1 && c2, .fn f l1 l2)
  | v => lend1 b v
theorem lend2_ok {c : Bool} {v' : V} (h1 : lend2 h.b v = (c, v')) (hc : c = true) : BLe h v v' := by
  unfold lend2 at h1
  split at h1
  · rename_i cs
    generalize g1 : lendL1 h.b cs = p1 at h1
    obtain ⟨c1, l1⟩ := p1
    simp only [Prod.mk.injEq] at h1; obtain ⟨e, rfl⟩ := h1
    subst e
    exact .agg (lendL1_ok g1 hc)
  · rename_i f a cs
    generalize g1 : lendL1 h.b a = p1 at h1
    generalize g2 : lendL1 h.b cs = p2 at h1
    obtain ⟨c1, l1⟩ := p1
    obtain ⟨c2, l2⟩ := p2
    simp only [Prod.mk.injEq] at h1; obtain ⟨e, rfl⟩ := h1
    subst e
    obtain ⟨hc1, hc2⟩ := and_split hc
    exact .fn (lendL1_ok g1 hc1) (lendL1_ok g2 hc2)
  · exact lend1_ok h1 hc
noncomputable def lendL (b : Heap) : List V → Bool × List V :=
  List.rec (true, []) (fun v _ ih => match lend2 b v with | (c, v') => match ih with | (c', l) => (c && c', v' :: l))
theorem lendL_ok : ∀ {l l' : List V} {c : Bool}, lendL h.b l = (c, l') → c = true → BL h l l'
  | [], l', c, h1, hc => by
    have e : (true, ([] : List V)) = (c, l') := h1
    simp only [Prod.mk.injEq] at e; obtain ⟨_, rfl⟩ := e
    exact .nil
  | v :: r, l', c, h1, hc => by
    have e : (match lend2 h.b v with | (c, v') => match lendL h.b r with | (c', l) => (c && c', v' :: l)) = (c, l') := h1
    generalize g1 : lend2 h.b v = p1 at e
    generalize g2 : lendL h.b r = p2 at e
    obtain ⟨c1, v1⟩ := p1
    obtain ⟨c2, l2⟩ := p2
    simp only [Prod.mk.injEq] at e; obtain ⟨e, rfl⟩ := e
    subst e
    obtain ⟨hc1, hc2⟩ := and_split hc
    exact .cons (lend2_ok g1 hc1) (lendL_ok g2 hc2)

/-- What is known of the functions that are called: P: of pure ones; C: of any. -/
structure Cs where
  P : FuncId → List V → Option (List Ob × V)
  C : FuncId → List V → Hp → Option (List Ob × V × Hp)
structure CsOk (E : Env) (c : Cs) : Prop where
  P : ∀ f args l r, c.P f args = some (l, r) → obsL l → Enters E f ∧ Fn E f args r
  C : ∀ f args h l r h', c.C f args h = some (l, r, h') → obsL l → Enters E f ∧ Call E f args h (fun r' h'' => r' = r ∧ h'' = h')
theorem Fn.pures {f : FuncId} {args : List V} {r : V} (c : Fn E f args r) : pureL args = true := c.2.1
/-- A call: what must hold, what it comes to, and the blocks, if they are others. gi: what was there must stay as it is. -/
noncomputable def callC (c : Cs) (gi : Bool) (f : FuncId) (vs : List V) (h : Hp) : Option (List Ob × V × Option Hp) :=
  match gi with
  | true => none
  | false => match c.C f vs h with
    | some (l, r, h') => some (l, r, some h')
    | none => none
noncomputable def callX (c : Cs) (gi : Bool) (f : FuncId) (vs : List V) (h : Hp) : Option (List Ob × V × Option Hp) :=
  match pureL vs with
  | true => match c.P f vs with
    | some (l, r) => some (l, r, none)
    | none => callC c gi f vs h
  | false => match lendL h.b vs with
    | (cb, args) => match c.P f args with
      | some (l, r) => match r.flat with
        | true => some (.b cb :: l, r, none)
        | false => none
      | none => callC c gi f vs h
theorem callC_ok {c : Cs} {gi : Bool} {f : FuncId} {vs : List V} {l : List Ob} {r : V} {hc : Option Hp} (hcs : CsOk E c) (h1 : callC c gi f vs h = some (l, r, hc)) (hl : obsL l) : gi = false ∧ ∃ h', hc = some h' ∧ Enters E f ∧ Call E f vs h (fun r' h'' => r' = r ∧ h'' = h') := by
  unfold callC at h1
  split at h1
  · cases h1
  · split at h1
    · rename_i hp
      injection h1 with h1; simp only [Prod.mk.injEq] at h1; obtain ⟨rfl, rfl, rfl⟩ := h1
      exact ⟨rfl, _, rfl, hcs.C _ _ _ _ _ _ hp hl⟩
    · cases h1
theorem callX_ok {c : Cs} {gi : Bool} {f : FuncId} {xs : Array Operand} {ats : Array TypeId} {vs : List V} {l : List Ob} {r : V} {hn : Option Hp} (hc : CsOk E c) (ho : o.op = .call { callee := .value (.func f), args := xs, argTypes := ats }) (hv : evL s xs.toList = some vs) (hk : dstOk o.dst k = true)
    (h1 : callX c gi f vs h = some (l, r, hn)) (hl : obsL l) : Ef E k B gi s h o (fun s2 h2 => s2 = putR o.dst r s ∧ h2 = hn.getD h) := by
  unfold callX at h1
  split at h1
  · split at h1
    · rename_i hp
      injection h1 with h1; simp only [Prod.mk.injEq] at h1; obtain ⟨rfl, rfl, rfl⟩ := h1
      obtain ⟨g1, g2⟩ := hc.P _ _ _ _ hp hl
      exact (Ef.fn ho g2 g1 hv (AL.refl vs) hk ⟨rfl, rfl⟩).drop (fun _ => rfl)
    · obtain ⟨rfl, h', rfl, g1, g2⟩ := callC_ok hc h1 hl
      exact Ef.call ho g2 g1 hv (AL.refl vs) hk (fun r' h'' ⟨e1, e2⟩ => ⟨by rw [e1], e2⟩)
  · generalize g1 : lendL h.b vs = p1 at h1
    obtain ⟨cb, args⟩ := p1
    dsimp only at h1
    split at h1
    · rename_i hp
      split at h1
      · rename_i hf
        injection h1 with h1; simp only [Prod.mk.injEq] at h1; obtain ⟨rfl, rfl, rfl⟩ := h1
        obtain ⟨hcb, hl⟩ := obsL_b hl
        obtain ⟨g2, g3⟩ := hc.P _ _ _ _ hp hl
        exact (Ef.fnB ho g3 g2 hv (lendL_ok g1 hcb) hf hk ⟨rfl, rfl⟩).drop (fun _ => rfl)
      · cases h1
    · obtain ⟨rfl, h', rfl, g1, g2⟩ := callC_ok hc h1 hl
      exact Ef.call ho g2 g1 hv (AL.refl vs) hk (fun r' h'' ⟨e1, e2⟩ => ⟨by rw [e1], e2⟩)
/-- A call of a function value. -/
noncomputable def dynX (c : Cs) (gi : Bool) (fv : V) (vs : List V) (h : Hp) : Option (List Ob × V × Option Hp) :=
  match fv with
  | .d (.fn f) => match c.P f vs with
    | some (l, r) => some (l, r, none)
    | none => callC c gi f vs h
  | .fn f fi ca => match c.P f (fi ++ vs ++ ca) with
    | some (l, r) => some (l, r, none)
    | none => callC c gi f (fi ++ vs ++ ca) h
  | _ => none
theorem dynX_ok {c : Cs} {gi : Bool} {tt : Nat} {xs : Array Operand} {ats : Array TypeId} {vs : List V} {fv : V} {l : List Ob} {r : V} {hn : Option Hp} (hc : CsOk E c) (ho : o.op = .call { callee := .value (.tmp tt), args := xs, argTypes := ats }) (hf : lk s tt = some fv) (hv : evL s xs.toList = some vs) (hk : dstOk o.dst k = true)
    (h1 : dynX c gi fv vs h = some (l, r, hn)) (hl : obsL l) : Ef E k B gi s h o (fun s2 h2 => s2 = putR o.dst r s ∧ h2 = hn.getD h) := by
  unfold dynX at h1
  split at h1
  · split at h1
    · rename_i hp
      injection h1 with h1; simp only [Prod.mk.injEq] at h1; obtain ⟨rfl, rfl, rfl⟩ := h1
      obtain ⟨g1, g2⟩ := hc.P _ _ _ _ hp hl
      exact (Ef.dynF ho hf g2 g1 hv (AL.refl vs) hk ⟨rfl, rfl⟩).drop (fun _ => rfl)
    · obtain ⟨rfl, h', rfl, g1, g2⟩ := callC_ok hc h1 hl
      exact Ef.dyn ho hf g2 g1 hv (AL.refl vs) hk (fun r' h'' ⟨e1, e2⟩ => ⟨by rw [e1], e2⟩)
  · split at h1
    · rename_i hp
      injection h1 with h1; simp only [Prod.mk.injEq] at h1; obtain ⟨rfl, rfl, rfl⟩ := h1
      obtain ⟨g1, g2⟩ := hc.P _ _ _ _ hp hl
      exact (Ef.dynFC ho hf g2 g1 hv (AL.refl _) hk ⟨rfl, rfl⟩).drop (fun _ => rfl)
    · obtain ⟨rfl, h', rfl, g1, g2⟩ := callC_ok hc h1 hl
      exact Ef.dynC ho hf g2 g1 hv (AL.refl _) hk (fun r' h'' ⟨e1, e2⟩ => ⟨by rw [e1], e2⟩)
  · cases h1
/-- Whether what an operation yields hangs on a condition. -/
noncomputable def condO (X : Fx) (d : Nat) (s : Slots) : Op → Bool
  | .move _ => false
  | .assign _ => false
  | .pick _ _ _ => false
  | .load _ x => match evX s x with
    | some (.el _ _ _ _) => true
    | _ => false
  | .fieldAddr _ _ _ => false
  | .field _ _ _ => false
  | .binOp op _ _ _ _ => match op with
    | .add | .sub | .mul | .quo | .rem | .shl | .shr => true
    | _ => false
  | .unOp op _ _ => match op with
    | .not => false
    | _ => true
  | .extract _ _ => false
  | .convert _ _ _ => memN d X.wr
  | .build _ _ => false
  | .makeFunc _ _ _ => false
  | .nilCheck _ => false
  | .call _ => false
  | _ => true
theorem binX_true {tab : List (Nat × Ty)} {eqs : List (Nat × List Kd)} {wr c : Bool} {op : BinOp} {t : Nat} {v1 v2 : V} (ho : op ≠ .add ∧ op ≠ .sub ∧ op ≠ .mul ∧ op ≠ .quo ∧ op ≠ .rem ∧ op ≠ .shl ∧ op ≠ .shr) (h1 : binX tab eqs wr op t v1 v2 = some (c, v)) : c = true := by
  have hE : ∀ {neg : Bool} {x y : V}, binE tab eqs t neg x y = some (c, v) → c = true := fun {neg x y} h => by
    unfold binE at h
    split at h
    · split at h
      · split at h
        · injection h with h; simp only [Prod.mk.injEq] at h; exact h.1.symm
        · cases h
      · cases h
    · split at h
      · injection h with h; simp only [Prod.mk.injEq] at h; exact h.1.symm
      · cases h
    · injection h with h; simp only [Prod.mk.injEq] at h; exact h.1.symm
    · split at h
      · split at h
        · injection h with h; simp only [Prod.mk.injEq] at h; exact h.1.symm
        · cases h
      · cases h
  have hI : ∀ {k : IntKind} {i j : Int}, binI wr op k i j = (c, v) → c = true := fun {k i j} h => by
    obtain ⟨o1, o2, o3, o4, o5, o6, o7⟩ := ho
    cases op <;> simp only [binI, Prod.mk.injEq] at h <;> first | exact h.1.symm | contradiction
  unfold binX at h1
  split at h1
  · exact absurd rfl ho.2.2.2.2.2.1
  · exact absurd rfl ho.2.2.2.2.2.2
  · split at h1
    · split at h1
      · split at h1
        · split at h1
          · exact absurd rfl ho.2.2.2.1
          · injection h1 with h1; exact hI h1
        · cases h1
      · cases h1
    · split at h1
      · exact hE h1
      · exact hE h1
      · cases h1
theorem loadX_true {tab : List (Nat × Ty)} {b : Heap} {t : Nat} {u : V} {c : Bool} (hu : ∀ e id i j, u ≠ .el e id i j) (h1 : loadX tab b t u = some (c, v)) : c = true := by
  unfold loadX at h1
  split at h1
  · split at h1
    · split at h1
      · split at h1
        · split at h1
          · split at h1
            · injection h1 with h1; simp only [Prod.mk.injEq] at h1; exact h1.1.symm
            · cases h1
          · cases h1
        · cases h1
      · split at h1
        · split at h1
          · split at h1
            · injection h1 with h1; simp only [Prod.mk.injEq] at h1; exact h1.1.symm
            · cases h1
          · cases h1
        · cases h1
      · cases h1
    · exact absurd rfl (hu _ _ _ _)
    · split at h1
      · split at h1
        · injection h1 with h1; simp only [Prod.mk.injEq] at h1; exact h1.1.symm
        · cases h1
      · cases h1
    · cases h1
  · cases h1
theorem yX_true {X : Fx} {b : Heap} {op : Op} {c : Bool} (hc : condO X d s op = false) (h1 : yX X d s b op = some (c, v)) : c = true := by
  unfold yX at h1
  split at h1
  · split at h1
    · injection h1 with h1; simp only [Prod.mk.injEq] at h1; exact h1.1.symm
    · cases h1
  · split at h1
    · injection h1 with h1; simp only [Prod.mk.injEq] at h1; exact h1.1.symm
    · cases h1
  · split at h1
    · split at h1
      · injection h1 with h1; simp only [Prod.mk.injEq] at h1; exact h1.1.symm
      · cases h1
    · cases h1
  · split at h1
    · rename_i hx
      refine loadX_true (fun e id i j hu => ?_) h1
      subst hu
      simp [condO, hx] at hc
    · cases h1
  · split at h1
    · unfold fieldAddrX at h1
      split at h1
      · split at h1
        · cases h1
        · split at h1
          · injection h1 with h1; simp only [Prod.mk.injEq] at h1; exact h1.1.symm
          · injection h1 with h1; simp only [Prod.mk.injEq] at h1; exact h1.1.symm
          · split at h1
            · injection h1 with h1; simp only [Prod.mk.injEq] at h1; exact h1.1.symm
            · cases h1
          · cases h1
      · cases h1
    · cases h1
  · split at h1
    · unfold fieldX at h1
      split at h1
      · split at h1
        · cases h1
        · split at h1
          · split at h1
            · split at h1
              · split at h1
                · injection h1 with h1; simp only [Prod.mk.injEq] at h1; exact h1.1.symm
                · cases h1
              · cases h1
            · cases h1
          · cases h1
      · cases h1
    · cases h1
  · simp [condO] at hc
  · simp [condO] at hc
  · split at h1
    · rename_i op _ _ _ _ _ _ _ _
      refine binX_true ⟨?_, ?_, ?_, ?_, ?_, ?_, ?_⟩ h1 <;> (rintro rfl; simp [condO] at hc)
    · cases h1
  · split at h1
    · unfold unX at h1
      split at h1
      · injection h1 with h1; simp only [Prod.mk.injEq] at h1; exact h1.1.symm
      · simp [condO] at hc
      · cases h1
    · cases h1
  · split at h1
    · split at h1
      · injection h1 with h1; simp only [Prod.mk.injEq] at h1; exact h1.1.symm
      · cases h1
    · cases h1
  · split at h1
    · unfold convX at h1
      have hw : memN d X.wr = false := hc
      rw [hw] at h1
      split at h1
      · split at h1
        · split at h1
          · injection h1 with h1; simp only [Prod.mk.injEq] at h1; exact h1.1.symm
          · injection h1 with h1; simp only [Prod.mk.injEq] at h1; exact h1.1.symm
        · cases h1
      · cases h1
    · cases h1
  · unfold buildX at h1
    split at h1
    · split at h1
      · split at h1
        · split at h1
          · split at h1
            · split at h1
              · injection h1 with h1; simp only [Prod.mk.injEq] at h1; exact h1.1.symm
              · cases h1
            · cases h1
          · split at h1
            · split at h1
              · injection h1 with h1; simp only [Prod.mk.injEq] at h1; exact h1.1.symm
              · cases h1
            · cases h1
          · cases h1
        · cases h1
      · cases h1
    · cases h1
  · simp [condO] at hc
  · simp [condO] at hc
  · split at h1
    · split at h1
      · injection h1 with h1; simp only [Prod.mk.injEq] at h1; exact h1.1.symm
      · cases h1
    · cases h1
  · split at h1
    · split at h1
      · injection h1 with h1; simp only [Prod.mk.injEq] at h1; exact h1.1.symm
      · cases h1
    · cases h1
  · split at h1
    · unfold lenX at h1
      split at h1
      · split at h1
        · injection h1 with h1; simp only [Prod.mk.injEq] at h1; exact h1.1.symm
        · injection h1 with h1; simp only [Prod.mk.injEq] at h1; exact h1.1.symm
        · injection h1 with h1; simp only [Prod.mk.injEq] at h1; exact h1.1.symm
        · injection h1 with h1; simp only [Prod.mk.injEq] at h1; exact h1.1.symm
        · split at h1
          · injection h1 with h1; simp only [Prod.mk.injEq] at h1; exact h1.1.symm
          · cases h1
        · cases h1
      · cases h1
    · cases h1
  · split at h1
    · unfold mmX at h1
      split at h1
      · split at h1
        · injection h1 with h1; simp only [Prod.mk.injEq] at h1; exact h1.1.symm
        · cases h1
      · cases h1
    · cases h1
  · split at h1
    · unfold mmX at h1
      split at h1
      · split at h1
        · injection h1 with h1; simp only [Prod.mk.injEq] at h1; exact h1.1.symm
        · cases h1
      · cases h1
    · cases h1
  · cases h1
/-- Whether making or writing hangs on a condition. -/
def condA : Op → Bool
  | .box _ _ => false
  | .alloc _ => false
  | .buildSlice _ _ _ => false
  | _ => true
theorem aX_true {X : Fx} {c : Bool} (hc : condA o.op = false) (h1 : aX X B k o s h = some (c, s', h')) : c = true := by
  unfold aX at h1
  split at h1
  · split at h1
    · split at h1
      · injection h1 with h1; simp only [Prod.mk.injEq] at h1; exact h1.1.symm
      · cases h1
    · cases h1
  · split at h1
    · split at h1
      · split at h1
        · injection h1 with h1; simp only [Prod.mk.injEq] at h1; exact h1.1.symm
        · cases h1
      · cases h1
    · cases h1
  · rename_i ho; rw [ho] at hc; cases hc
  · split at h1
    · split at h1
      · unfold bsX at h1
        split at h1
        · split at h1
          · split at h1
            · split at h1
              · split at h1
                · injection h1 with h1; simp only [Prod.mk.injEq] at h1; exact h1.1.symm
                · injection h1 with h1; simp only [Prod.mk.injEq] at h1; exact h1.1.symm
              · cases h1
            · split at h1
              · injection h1 with h1; simp only [Prod.mk.injEq] at h1; exact h1.1.symm
              · cases h1
          · cases h1
        · cases h1
      · cases h1
    · cases h1
  · rename_i ho; rw [ho] at hc; cases hc
  · cases h1
/-- A condition, if there is one. -/
def obC (cond c : Bool) : List Ob := match cond with | true => [.b c] | false => []
/-- One operation of any kind: what must hold, the frame behind it, and the blocks, if they are others. -/
noncomputable def stepX (X : Fx) (c : Cs) (B k : Nat) (gi : Bool) (o : Oper) (s : Slots) (h : Hp) : Option (List Ob × Slots × Option Hp) :=
  match effO o.op with
  | false => match o.dst with
    | some d => match Nat.blt d k, yX X d s h.b o.op with
      | true, some (cb, v) => some (obC (condO X d s o.op) cb, (d, v) :: s, none)
      | _, _ => none
    | none => none
  | true => match o.op with
    | .call { callee := .value fv, args := xs, argTypes := _ } => match dstOk o.dst k, evXs s xs.toList with
      | true, some vs => match fv with
        | .func f => match callX c gi f vs h with
          | some (l, r, h') => some (l, putR o.dst r s, h')
          | none => none
        | .tmp tt => match lkr s tt with
          | some fv => match dynX c gi fv vs h with
            | some (l, r, h') => some (l, putR o.dst r s, h')
            | none => none
          | none => none
        | _ => none
      | _, _ => none
    | op => match !gi || aG op, aX X B k o s h with
      | true, some (cb, s', h') => some (obC (condA op) cb, s', some h')
      | _, _ => none
theorem stepX_ok {X : Fx} {c : Cs} {gi : Bool} {l : List Ob} {hn : Option Hp} (hX : X.tab = E.tab) (he : EqT E X.eqs) (hc : CsOk E c) (h1 : stepX X c B k gi o s h = some (l, s', hn)) (hl : obsL l) : Ef E k B gi s h o (fun s2 h2 => s2 = s' ∧ h2 = hn.getD h) ∧ (effO o.op = false → ∃ d v, o.dst = some d ∧ Nat.blt d k = true ∧ s' = (d, v) :: s ∧ hn = none ∧ Yl (rdO o.op) E k B s h o v) := by
  unfold stepX at h1
  split at h1
  · split at h1
    · rename_i d hd
      split at h1
      · rename_i cb v hk hy
        injection h1 with h1; simp only [Prod.mk.injEq] at h1; obtain ⟨rfl, rfl, rfl⟩ := h1
        have hcb : cb = true := by
          cases hco : condO X d s o.op
          · exact yX_true hco hy
          · rw [hco] at hl; exact (obsL_b hl).1
        have y := yX_ok (B := B) (k := k) hX he hy hcb
        exact ⟨(Ef.yl (y.mono) hd hk ⟨rfl, rfl⟩).drop (fun _ => rfl), fun _ => ⟨d, v, hd, hk, rfl, rfl, y⟩⟩
      · cases h1
    · cases h1
  · rename_i heff
    refine ⟨?_, fun e => by rw [heff] at e; cases e⟩
    split at h1
    · rename_i fv xs ats ho
      split at h1
      · rename_i vs hk hv
        rw [evXs_eq] at hv
        split at h1
        · rename_i f
          split at h1
          · rename_i hcall
            injection h1 with h1; simp only [Prod.mk.injEq] at h1; obtain ⟨rfl, rfl, rfl⟩ := h1
            exact callX_ok hc ho hv hk hcall hl
          · cases h1
        · rename_i tt
          rw [lkr_eq] at h1
          split at h1
          · rename_i fv hf
            split at h1
            · rename_i hcall
              injection h1 with h1; simp only [Prod.mk.injEq] at h1; obtain ⟨rfl, rfl, rfl⟩ := h1
              exact dynX_ok hc ho hf hv hk hcall hl
            · cases h1
          · cases h1
        · cases h1
      · cases h1
    · split at h1
      · rename_i cb s2 h2 hg ha
        injection h1 with h1; simp only [Prod.mk.injEq] at h1; obtain ⟨rfl, rfl, rfl⟩ := h1
        have hcb : cb = true := by
          cases hco : condA o.op
          · exact aX_true hco ha
          · rw [hco] at hl; exact (obsL_b hl).1
        exact (aX_ok hX ha hcb).drop (fun e => by subst e; simpa using hg)
      · cases h1
end
end Go.Proofs.Ytmgckodihnmjoaa
