/-
  The reckoner: operations that make and write. Conditions: none.
-/
import Derived.Test.YtmgckodihnmjoaaX5
set_option linter.unusedVariables false
set_option linter.unusedSimpArgs false
set_option maxRecDepth 20000
namespace Go.Proofs.Ytmgckodihnmjoaa
open Go.RowKit

section
variable {E : Env} {k B : Nat} {s s' : Slots} {h h' : Hp} {Q Q' : Post} {U : Nat → Prop} {m : Nat → Option Nat} {a : Act} {w w' : World} {o : Oper} {v : V} {d n : Nat} {t u e : TypeId} {td ed : TypeDesc} {tz tb ez eb : Nat} {tr er : Option Value} {x y : Operand} {ρ g : Bool} {ops : Array Oper} {rest : List Oper} {K K' : Slots → Hp → Prop}

/-- An operation goes on to a state of which K holds. -/
def Ef (E : Env) (k B : Nat) (g : Bool) (s : Slots) (h : Hp) (o : Oper) (K : Slots → Hp → Prop) : Prop :=
  ∀ U m a w (N : Act → World → Prop) (R : Exit → Act → World → Prop), SR k B U m s h a w →
    (∀ a' w' U' m' s' h', K s' h' → SR k B U' m' s' h' a' w' → Stp B U m h.n h.b w U' m' h'.n h'.b w' → (g = true → Same0 w w') → N a' w') → o.wp E.P a w N R
theorem Ef.mono (e : Ef E k B g s h o K) (hK : ∀ s h, K s h → K' s h) : Ef E k B g s h o K' := fun U m a w N R r hN =>
  e U m a w N R r fun a' w' U' m' s' h' q => hN a' w' U' m' s' h' (hK _ _ q)
theorem Ef.drop {g' : Bool} (e : Ef E k B g s h o K) (hg : g' = true → g = true) : Ef E k B g' s h o K := fun U m a w N R r hN =>
  e U m a w N R r fun a' w' U' m' s' h' q r1 st hs => hN a' w' U' m' s' h' q r1 st fun e => hs (hg e)
theorem Ef.yl (y : Yl true E k B s h o v) (hd : o.dst = some d) (hk : Nat.blt d k = true) (q : K ((d, v) :: s) h) : Ef E k B true s h o K := fun U m a w N R r hN => by
  obtain ⟨x, h1, h2⟩ := y U m a w r
  unfold Oper.wp
  rw [h2 w (fun _ => .refl w), Oper.upon_value, hd]
  exact hN _ _ _ _ _ _ q (r.put hk h1) (.refl ..) (fun _ => .refl w)
theorem Ef.ac (y : Ac E k B g s h o s' h') (q : K s' h') : Ef E k B g s h o K := fun U m a w N R r hN => by
  obtain ⟨nx, a', w', U', m', h1, h2, h3, h4, h5⟩ := y U m a w r
  unfold Oper.wp
  rw [h1]
  exact h2.upon _ _ (hN _ _ _ _ _ _ q h3 h4 h5)
theorem Ef.fn {f : FuncId} {xs : Array Operand} {ats : Array TypeId} {args vs : List V} {rv : V} (ho : o.op = .call { callee := .value (.func f), args := xs, argTypes := ats })
    (c : Fn E f args rv) (he : Enters E f) (hv : evL s xs.toList = some vs) (ha : AL vs args) (hk : dstOk o.dst k = true) (q : K (putR o.dst rv s) h) : Ef E k B true s h o K := fun U m a w N R r hN => by
  obtain ⟨as, h1, h2⟩ := call_run r ho he hv ha
  unfold Oper.wp
  rw [h1, Oper.upon_enter]
  refine (c.calls r.heap h2).mono fun e w' ⟨R0, U', e1, hvr, st, hH, hs⟩ => ?_
  subst e1
  exact hN _ _ _ _ _ _ q ((r.stp st hH).putR hk hvr) (st.low r.base) (fun _ => hs)
theorem Ef.fnB {f : FuncId} {xs : Array Operand} {ats : Array TypeId} {args vs : List V} {rv : V} (ho : o.op = .call { callee := .value (.func f), args := xs, argTypes := ats })
    (c : Fn E f args rv) (he : Enters E f) (hv : evL s xs.toList = some vs) (ha : BL h vs args) (hfl : rv.flat = true) (hk : dstOk o.dst k = true) (q : K (putR o.dst rv s) h) : Ef E k B true s h o K := fun U m a w N R r hN => by
  obtain ⟨as, h1, h2⟩ := callB_run r ho he hv
  unfold Oper.wp
  rw [h1, Oper.upon_enter]
  refine (c.callsB hfl r.heap h2 ha).mono fun e w' ⟨R0, e1, hvr, st, hH, hs⟩ => ?_
  subst e1
  exact hN _ _ _ _ _ _ q ((r.stp st hH).putR hk hvr) (st.low r.base) (fun _ => hs)
theorem Ef.call {f : FuncId} {xs : Array Operand} {ats : Array TypeId} {args vs : List V} {R : V → Hp → Prop} (ho : o.op = .call { callee := .value (.func f), args := xs, argTypes := ats })
    (c : Call E f args h R) (he : Enters E f) (hv : evL s xs.toList = some vs) (ha : AL vs args) (hk : dstOk o.dst k = true) (q : ∀ r h', R r h' → K (putR o.dst r s) h') : Ef E k B false s h o K := fun U m a w N R r hN => by
  obtain ⟨as, h1, h2⟩ := call_run r ho he hv ha
  unfold Oper.wp
  rw [h1, Oper.upon_enter]
  refine (c U m w as r.heap h2).mono fun e w' ⟨rv, R0, U', m', h', e1, hq, hvr, hH, st⟩ => ?_
  subst e1
  exact hN _ _ _ _ _ _ (q rv h' hq) ((r.stp st hH).putR hk hvr) (st.low r.base) (fun e => by cases e)
/-- A call of a function value. -/
theorem Ef.dyn {f : FuncId} {tt : Nat} {xs : Array Operand} {ats : Array TypeId} {args vs : List V} {R : V → Hp → Prop} (ho : o.op = .call { callee := .value (.tmp tt), args := xs, argTypes := ats }) (hf : lk s tt = some (.d (.fn f)))
    (c : Call E f args h R) (he : Enters E f) (hv : evL s xs.toList = some vs) (ha : AL vs args) (hk : dstOk o.dst k = true) (q : ∀ r h', R r h' → K (putR o.dst r s) h') : Ef E k B false s h o K := fun U m a w N R r hN => by
  obtain ⟨as, h1, h2⟩ := dyn_run0 r ho he hf hv ha
  unfold Oper.wp
  rw [h1, Oper.upon_enter]
  refine (c U m w as r.heap h2).mono fun e w' ⟨rv, R0, U', m', h', e1, hq, hvr, hH, st⟩ => ?_
  subst e1
  exact hN _ _ _ _ _ _ (q rv h' hq) ((r.stp st hH).putR hk hvr) (st.low r.base) (fun e => by cases e)
theorem Ef.dynC {f : FuncId} {tt : Nat} {xs : Array Operand} {ats : Array TypeId} {args vs fi ca : List V} {R : V → Hp → Prop} (ho : o.op = .call { callee := .value (.tmp tt), args := xs, argTypes := ats }) (hf : lk s tt = some (.fn f fi ca))
    (c : Call E f args h R) (he : Enters E f) (hv : evL s xs.toList = some vs) (ha : AL (fi ++ vs ++ ca) args) (hk : dstOk o.dst k = true) (q : ∀ r h', R r h' → K (putR o.dst r s) h') : Ef E k B false s h o K := fun U m a w N R r hN => by
  obtain ⟨as, h1, h2⟩ := dyn_run r ho he hf hv ha
  unfold Oper.wp
  rw [h1, Oper.upon_enter]
  refine (c U m w as r.heap h2).mono fun e w' ⟨rv, R0, U', m', h', e1, hq, hvr, hH, st⟩ => ?_
  subst e1
  exact hN _ _ _ _ _ _ (q rv h' hq) ((r.stp st hH).putR hk hvr) (st.low r.base) (fun e => by cases e)
/-- A function value that is called may be a pure one. -/
theorem Ef.dynF {f : FuncId} {tt : Nat} {xs : Array Operand} {ats : Array TypeId} {args vs : List V} {rv : V} (ho : o.op = .call { callee := .value (.tmp tt), args := xs, argTypes := ats }) (hf : lk s tt = some (.d (.fn f)))
    (c : Fn E f args rv) (he : Enters E f) (hv : evL s xs.toList = some vs) (ha : AL vs args) (hk : dstOk o.dst k = true) (q : K (putR o.dst rv s) h) : Ef E k B true s h o K := fun U m a w N R r hN => by
  obtain ⟨as, h1, h2⟩ := dyn_run0 r ho he hf hv ha
  unfold Oper.wp
  rw [h1, Oper.upon_enter]
  refine (c.calls r.heap h2).mono fun e w' ⟨R0, U', e1, hvr, st, hH, hs⟩ => ?_
  subst e1
  exact hN _ _ _ _ _ _ q ((r.stp st hH).putR hk hvr) (st.low r.base) (fun _ => hs)
theorem Ef.dynFC {f : FuncId} {tt : Nat} {xs : Array Operand} {ats : Array TypeId} {args vs fi ca : List V} {rv : V} (ho : o.op = .call { callee := .value (.tmp tt), args := xs, argTypes := ats }) (hf : lk s tt = some (.fn f fi ca))
    (c : Fn E f args rv) (he : Enters E f) (hv : evL s xs.toList = some vs) (ha : AL (fi ++ vs ++ ca) args) (hk : dstOk o.dst k = true) (q : K (putR o.dst rv s) h) : Ef E k B true s h o K := fun U m a w N R r hN => by
  obtain ⟨as, h1, h2⟩ := dyn_run r ho he hf hv ha
  unfold Oper.wp
  rw [h1, Oper.upon_enter]
  refine (c.calls r.heap h2).mono fun e w' ⟨R0, U', e1, hvr, st, hH, hs⟩ => ?_
  subst e1
  exact hN _ _ _ _ _ _ q ((r.stp st hH).putR hk hvr) (st.low r.base) (fun _ => hs)
theorem TO.ef (hg : o.guard = none) (e : Ef E k B g s h o (fun s' h' => TO E k B ops rest s' h' Q)) : TO E k B ops (o :: rest) s h Q := fun U m a w r => by
  refine wpList_plain hg fun K hK => ?_
  exact e U m a w _ _ r fun a' w' U' m' s' h' q r1 st _ => hK _ _ (RP.step' st (q U' m' a' w' r1))
theorem TA.ef {listed : Array Bool} {gg : Nat → Bool} {n : Nat} (i : Nat) (hi : ops[i]? = some o) (e : Ef E k B (gg i) s h o (fun s' h' => TA E k B ops gg n (listed.setIfInBounds i true) s' h' Q)) (hw : Wants s ops o true) (hr : Region.ready .any ops listed = [i]) : TA E k B ops gg (n + 1) listed s h Q := fun U m a w r => by
  refine ⟨(fun e => by rw [hr] at e; cases e), fun j hj => ?_⟩
  rw [hr] at hj
  simp only [List.mem_singleton] at hj
  subst hj
  unfold wpOp
  simp only [hi, r.wants hw, if_true]
  exact .inl (e U m a w _ _ r fun a' w' U' m' s' h' q r1 st hs => ⟨hs, wpAnyK_mono (fun e a2 w2 q => RP_trans st q) _ _ _ _ (q U' m' a' w' r1)⟩)

/-- The same blocks. -/
def HEq (b b' : Heap) : Prop := ∀ i, lk b i = lk b' i
theorem HEq.own {b b' : Heap} (e : HEq b b') {m : Nat → Option Nat} {x : Nat} : Own m b x ↔ Own m b' x := by
  unfold Own; simp only [e _]
theorem HR.heq {b b' : Heap} (e : HEq b b') (r : HR U m n b w) : HR U m n b' w :=
  ⟨fun i k h => r.live i k (by rw [e]; exact h), fun i k x h => r.ok i k x (by rw [e]; exact h), fun i i' k k' x h1 h2 => r.inj i i' k k' x (by rw [e]; exact h1) (by rw [e]; exact h2), r.ulow⟩
theorem SR.heq {b b' : Heap} (e : HEq b b') (r : SR k B U m s ⟨n, b⟩ a w) : SR k B U m s ⟨n, b'⟩ a w :=
  ⟨r.slots, r.size, r.defers, r.heap.heq e, r.base⟩
theorem Stp.heq {b0 b b' : Heap} {n0 : Nat} {U' : Nat → Prop} {m' : Nat → Option Nat} (e : HEq b b') (st : Stp B U m n0 b0 w U' m' n b w') : Stp B U m n0 b0 w U' m' n b' w' :=
  { st with own := fun x hx h => st.own x hx (e.own.2 h) }
theorem Ef.heq {b b' : Heap} (e : HEq b b') (q : Ef E k B g s h o (fun s2 h2 => s2 = s' ∧ h2 = ⟨n, b⟩)) (r : K s' ⟨n, b'⟩) : Ef E k B g s h o K := fun U m a w N R r0 hN =>
  q U m a w N R r0 fun a' w' U' m' s2 h2 ⟨e1, e2⟩ r1 st hs => by
    subst e1; subst e2
    exact hN a' w' U' m' s2 ⟨n, b'⟩ r (r1.heq e) (st.heq e) hs
/-- A block's entry, in its place. -/
noncomputable def setH (id : Nat) (x : Option Blk) (b : Heap) : Heap :=
  List.rec [(id, x)] (fun p r ih => cond (Nat.beq p.1 id) ((id, x) :: r) (p :: ih)) b
theorem setH_eq (id : Nat) (x : Option Blk) (b : Heap) : HEq ((id, x) :: b) (setH id x b) := fun i => by
  induction b with
  | nil => rfl
  | cons p r ih =>
    obtain ⟨j, y⟩ := p
    show _ = lk (cond (Nat.beq j id) ((id, x) :: r) ((j, y) :: setH id x r)) i
    by_cases hj : j = id
    · subst hj
      rw [Nat.beq_refl, cond_true, lk_cons, lk_cons, lk_cons]
      split <;> rfl
    · have e : Nat.beq j id = false := by
        cases e : Nat.beq j id
        · rfl
        · exact absurd (Nat.eq_of_beq_eq_true e) hj
      rw [e, cond_false, lk_cons, lk_cons, lk_cons, ← ih, lk_cons]
      by_cases h1 : id = i
      · subst h1; rw [if_pos rfl, if_neg hj, if_pos rfl]
      · rw [if_neg h1]
        simp only [if_neg h1]
theorem putN_okD : ∀ {n : Nat} {new l r : List D}, putN n new l = some r → dput l n new = r ∧ n + new.length ≤ l.length
  | 0, [], l, r, h => by simp only [putN, Option.some.injEq] at h; subst h; simp [dput]
  | 0, v :: new, [], r, h => by cases h
  | 0, v :: new, x :: l, r, h => by
    simp only [putN] at h
    split at h
    · rename_i l' h1
      injection h with h; subst h
      obtain ⟨h2, h3⟩ := putN_okD h1
      refine ⟨?_, by simp only [List.length_cons]; omega⟩
      simp only [dput, List.take_zero, List.nil_append, Nat.zero_add, List.length_cons, List.drop_succ_cons] at h2 ⊢
      rw [← h2, List.cons_append]
    · cases h
  | n + 1, new, [], r, h => by cases h
  | n + 1, new, x :: l, r, h => by
    simp only [putN] at h
    split at h
    · rename_i l' h1
      injection h with h; subst h
      obtain ⟨h2, h3⟩ := putN_okD h1
      refine ⟨?_, by simp only [List.length_cons]; omega⟩
      simp only [dput, List.take_succ_cons, List.cons_append, show n + 1 + new.length = (n + new.length) + 1 by omega, List.drop_succ_cons] at h2 ⊢
      rw [← h2]
    · cases h
theorem flatN_put {n e i r : Nat} {f : Nat → List D} {ds fi : List D} (hl : ∀ j, j < n → (f j).length = e) (hi : i < n) (hp : putN r ds (f i) = some fi) :
    flatN n (fun j => selL (Nat.beq j i) fi (f j)) = dput (flatN n f) (i * e + r) ds := by
  obtain ⟨e1, e2⟩ := putN_okD hp
  have hfi : fi.length = e := by rw [← e1, ← hl i hi]; simp [dput]; omega
  have hl' : ∀ j, j < n → ((fun j => selL (Nat.beq j i) fi (f j)) j).length = e := fun j hj => by
    show (selL _ _ _).length = e
    rw [selL_eq]
    cases Nat.beq j i
    · exact hl j hj
    · exact hfi
  have hr : r + ds.length ≤ e := by rw [← hl i hi]; exact e2
  have hN := flatN_len hl
  have hlt : i * e + e ≤ n * e := by
    have : (i + 1) * e ≤ n * e := Nat.mul_le_mul_right _ hi
    rwa [Nat.add_mul, Nat.one_mul] at this
  apply List.ext_getElem?
  intro p
  by_cases hp2 : p < n * e
  · have he : 0 < e := by
      rcases Nat.eq_zero_or_pos e with h0 | h0
      · subst h0; simp at hp2
      · exact h0
    have hq : p / e < n := Nat.div_lt_of_lt_mul (by rwa [Nat.mul_comm])
    have hm : p % e < e := Nat.mod_lt _ he
    have hpe : p = (p / e) * e + p % e := by have := Nat.div_add_mod p e; rw [Nat.mul_comm] at this; exact this.symm
    rw [hpe, flatN_get hl' hq hm]
    generalize hqd : p / e = q at *
    generalize hmd : p % e = mm at *
    show (selL _ _ _)[mm]? = _
    rw [selL_eq]
    unfold dput
    by_cases hqi : q = i
    · subst hqi
      rw [Nat.beq_refl, cond_true, ← e1]
      unfold dput
      by_cases c1 : mm < r
      · rw [List.append_assoc, List.getElem?_append_left (by simp; omega), List.append_assoc, List.getElem?_append_left (by simp [hN]; omega), List.getElem?_take, if_pos c1, List.getElem?_take, if_pos (by omega), flatN_get hl hq hm]
      · by_cases c2 : mm < r + ds.length
        · rw [List.append_assoc, List.getElem?_append_right (by simp; omega), List.getElem?_append_left (by simp; omega), List.append_assoc, List.getElem?_append_right (by simp [hN]; omega), List.getElem?_append_left (by simp [hN]; omega)]
          congr 1
          simp [hN]; omega
        · have t1 : ((f q).take r ++ ds).length = r + ds.length := by simp; omega
          have t2 : ((flatN n f).take (q * e + r) ++ ds).length = q * e + r + ds.length := by simp [hN]; omega
          rw [List.getElem?_append_right (by omega), List.getElem?_append_right (by omega), t1, t2, List.getElem?_drop, List.getElem?_drop, show q * e + r + ds.length + (q * e + mm - (q * e + r + ds.length)) = q * e + mm by omega, flatN_get hl hq hm]
          congr 1; omega
    · have : Nat.beq q i = false := by
        cases hb : Nat.beq q i
        · rfl
        · exact absurd (Nat.eq_of_beq_eq_true hb) hqi
      rw [this, cond_false]
      by_cases c1 : q < i
      · have : (q + 1) * e ≤ i * e := Nat.mul_le_mul_right _ c1
        rw [Nat.add_mul, Nat.one_mul] at this
        rw [List.append_assoc, List.getElem?_append_left (by simp [hN]; omega), List.getElem?_take, if_pos (by omega), flatN_get hl hq hm]
      · have : (i + 1) * e ≤ q * e := Nat.mul_le_mul_right _ (by omega)
        rw [Nat.add_mul, Nat.one_mul] at this
        have t2 : ((flatN n f).take (i * e + r) ++ ds).length = i * e + r + ds.length := by simp [hN]; omega
        rw [List.getElem?_append_right (by omega), t2, List.getElem?_drop, show i * e + r + ds.length + (q * e + mm - (i * e + r + ds.length)) = q * e + mm by omega, flatN_get hl hq hm]
  · have t3 : (dput (flatN n f) (i * e + r) ds).length = n * e := by simp [dput, hN]; omega
    rw [List.getElem?_eq_none (by rw [flatN_len hl']; omega), List.getElem?_eq_none (by rw [t3]; omega)]
end
end Go.Proofs.Ytmgckodihnmjoaa
