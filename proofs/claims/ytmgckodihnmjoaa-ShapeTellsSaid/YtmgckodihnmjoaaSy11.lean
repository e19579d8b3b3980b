/-
  Words for the logic's use. Conditions: none.
-/
import Derived.Test.YtmgckodihnmjoaaSy10
set_option linter.unusedVariables false
set_option linter.unusedSimpArgs false
set_option maxRecDepth 20000
namespace Go.Proofs.Ytmgckodihnmjoaa
open Go.RowKit

theorem info_of_run {P : Program} {t : TypeId} {i : TypeInfo} (h : ∀ w, (typeInfo t).run P w = .ok i w) : P.info? t = some i := by
  have h1 := h default
  unfold typeInfo at h1
  simp only [Sem.run_bind, program, Sem.run, Result.andThen_ok] at h1
  cases hi : P.info? t with
  | none => simp [hi] at h1
  | some j => simp [hi] at h1; rw [h1]
section
variable {E : Env} {k B : Nat} {s s' : Slots} {h h' : Hp} {Q Q' : Post} {o : Oper} {v : V} {d : Nat} {ops : Array Oper} {rest : List Oper}
theorem thenP_nI {n : Slots → Hp → Prop} (q : n s h) : thenP n Q .normal s h := q
theorem thenP_rI {n : Slots → Hp → Prop} (q : Q .ret s h) : thenP n Q .ret s h := q
theorem thenP_eI {n : Slots → Hp → Prop} {i : Nat} (q : Q (.exit i) s h) : thenP n Q (.exit i) s h := q
theorem thenP_gI {n : Slots → Hp → Prop} {i : Nat} (q : Q (.goto i) s h) : thenP n Q (.goto i) s h := q
theorem inB_nI {id : Nat} (q : Q .normal s h) : inBlockP id Q .normal s h := q
theorem inB_rI {id : Nat} (q : Q .ret s h) : inBlockP id Q .ret s h := q
theorem inB_eI {id : Nat} (q : Q .normal s h) : inBlockP id Q (.exit id) s h := by simp only [inBlockP, if_true]; exact q
theorem inB_neI {id i : Nat} (hn : Nat.beq i id = false) (q : Q (.exit i) s h) : inBlockP id Q (.exit i) s h := by simp only [inBlockP, if_neg (ne_of_beq hn)]; exact q
theorem TO.y {ρ : Bool} (y : Yl ρ E k B s h o v) (hd : o.dst = some d) (hk : Nat.blt d k = true) (hg : o.guard = none) (t : TO E k B ops rest ((d, v) :: s) h Q) : TO E k B ops (o :: rest) s h Q := TO.yl hg hd hk y t
theorem TO.a {g : Bool} (y : Ac E k B g s h o s' h') (hg : o.guard = none) (t : TO E k B ops rest s' h' Q) : TO E k B ops (o :: rest) s h Q := TO.ac hg y t
/-- A guard of which nothing is known. -/
theorem TO.split {j dj : Nat} {want b : Bool} (hg : o.guard = some (j, want)) (hd : o.dst = some d) (hk : Nat.blt d k = true) (hj : yieldSlot ops j = some dj) (hb : lk s dj = some (vb b))
    (ht : b = want → TO E k B ops ({ o with guard := none } :: rest) s h Q) (hf : b = (!want) → TO E k B ops rest ((d, .un) :: s) h Q) : TO E k B ops (o :: rest) s h Q := by
  by_cases hw : b = want
  · exact TO.open hg hj hb hw (ht hw)
  · have : b = !want := by cases b <;> cases want <;> simp_all
    exact TO.shut hg hd hk hj hb this (hf this)
theorem Fn.of {f : FuncId} {args : List V} {r : V} (hp : r.pure = true) (ha : pureL args = true) (c : Call E f args ⟨0, []⟩ (fun r' _ => r' = r)) : Fn E f args r := ⟨hp, ha, c⟩
theorem dyn_run {U : Nat → Prop} {m : Nat → Option Nat} {a : Act} {w : World} {f : FuncId} {t : Nat} {xs : Array Operand} {ats : Array TypeId} {args vs fi ca : List V} (r : SR k B U m s h a w) (ho : o.op = .call { callee := .value (.tmp t), args := xs, argTypes := ats }) (he : Enters E f) (hf : lk s t = some (.fn f fi ca)) (hv : evL s xs.toList = some vs) (ha : AL (fi ++ vs ++ ca) args) :
    ∃ as, (execOp a.eval o).run E.P w = .ok (.enter f as) w ∧ VRs U m h.n w args as := by
  have h1 := r.tmp hf
  generalize hfe : a.eval (.tmp t) = fv at h1
  cases h1 with | @fn _ _ _ as cs la lc h2 h3 =>
  have h4 := evL_ok r xs.toList vs hv
  refine ⟨as ++ xs.map a.eval ++ cs, ?_, ?_⟩
  · have e : (execOp a.eval o).run E.P w = (callFunc f (as ++ xs.map a.eval ++ cs)).run E.P w := by
      simp only [execOp, ho, resolve, hfe, Deferred.ofValue, Sem.run_bind, Sem.run_pure, Result.andThen_ok, invoke]
    rw [e]; exact he _ w
  · refine VRs.le (l := fi ++ vs ++ ca) ⟨?_, fun j x v hx hv => ?_⟩ ha
    · have := h4.len; simp only [List.size_toArray, List.length_map, Array.length_toList] at this
      simp only [List.length_append, Array.size_append, Array.size_map, la, lc, this]
    · have e1 := h4.len
      simp only [List.size_toArray, List.length_map, Array.length_toList] at e1
      rcases get_append3' hx with ⟨a1, a2⟩ | ⟨a1, a2, a3⟩ | ⟨a1, a2⟩
      · refine h2 j x v a2 ?_
        rw [Array.append_assoc, Array.getElem?_append_left (by omega)] at hv; exact hv
      · refine h4.at_ (j - fi.length) x v a3 ?_
        rw [Array.append_assoc, Array.getElem?_append_right (by omega), Array.getElem?_append_left (by simp only [Array.size_map]; omega)] at hv
        rw [← la] at hv
        rwa [show (xs.toList.map a.eval).toArray = xs.map a.eval by rw [← Array.toList_map]]
      · refine h3 (j - (fi.length + vs.length)) x v a2 ?_
        rw [Array.append_assoc, Array.getElem?_append_right (by omega), Array.getElem?_append_right (by simp only [Array.size_map]; omega)] at hv
        rw [show j - (fi.length + vs.length) = j - as.size - (xs.map a.eval).size by simp only [Array.size_map]; omega]
        exact hv
theorem dyn_run0 {U : Nat → Prop} {m : Nat → Option Nat} {a : Act} {w : World} {f : FuncId} {t : Nat} {xs : Array Operand} {ats : Array TypeId} {args vs : List V} (r : SR k B U m s h a w) (ho : o.op = .call { callee := .value (.tmp t), args := xs, argTypes := ats }) (he : Enters E f) (hf : lk s t = some (.d (.fn f))) (hv : evL s xs.toList = some vs) (ha : AL vs args) :
    ∃ as, (execOp a.eval o).run E.P w = .ok (.enter f as) w ∧ VRs U m h.n w args as := by
  have h1 := r.tmp hf
  generalize hfe : a.eval (.tmp t) = fv at h1
  cases h1 with | d h1 =>
  cases h1
  refine ⟨xs.map a.eval, ?_, ?_⟩
  · have e : (execOp a.eval o).run E.P w = (callFunc f (#[] ++ xs.map a.eval ++ #[])).run E.P w := by
      simp only [execOp, ho, resolve, hfe, Deferred.ofValue, Sem.run_bind, Sem.run_pure, Result.andThen_ok, invoke]
    rw [e, Array.empty_append, Array.append_empty]; exact he _ w
  · have := (evL_ok r xs.toList vs hv).le ha
    rwa [show (xs.toList.map a.eval).toArray = xs.map a.eval by rw [← Array.toList_map]] at this
/-- A call of a function value. -/
theorem TO.dyn {f : FuncId} {t : Nat} {xs : Array Operand} {ats : Array TypeId} {args vs : List V} {R : V → Hp → Prop} (ho : o.op = .call { callee := .value (.tmp t), args := xs, argTypes := ats }) (hf : lk s t = some (.d (.fn f)))
    (c : Call E f args h R) (he : Enters E f) (hv : evL s xs.toList = some vs) (ha : AL vs args) (hg : o.guard = none) (hk : dstOk o.dst k = true) (t : ∀ r h', R r h' → TO E k B ops rest (putR o.dst r s) h' Q) : TO E k B ops (o :: rest) s h Q := fun U m a w r => by
  obtain ⟨as, h1, h2⟩ := dyn_run0 r ho he hf hv ha
  refine wpList_plain hg fun K hK => ?_
  unfold Oper.wp
  rw [h1, Oper.upon_enter]
  refine (c U m w as r.heap h2).mono fun e w' ⟨rv, R0, U', m', h', e1, q, hvr, hH, st⟩ => ?_
  subst e1
  have r1 := r.stp st hH
  exact hK _ _ (RP.step' (st.low r.base) (t rv h' q _ _ _ _ (r1.putR hk hvr)))
theorem TO.dynC {f : FuncId} {t : Nat} {xs : Array Operand} {ats : Array TypeId} {args vs fi ca : List V} {R : V → Hp → Prop} (ho : o.op = .call { callee := .value (.tmp t), args := xs, argTypes := ats }) (hf : lk s t = some (.fn f fi ca))
    (c : Call E f args h R) (he : Enters E f) (hv : evL s xs.toList = some vs) (ha : AL (fi ++ vs ++ ca) args) (hg : o.guard = none) (hk : dstOk o.dst k = true) (t : ∀ r h', R r h' → TO E k B ops rest (putR o.dst r s) h' Q) : TO E k B ops (o :: rest) s h Q := fun U m a w r => by
  obtain ⟨as, h1, h2⟩ := dyn_run r ho he hf hv ha
  refine wpList_plain hg fun K hK => ?_
  unfold Oper.wp
  rw [h1, Oper.upon_enter]
  refine (c U m w as r.heap h2).mono fun e w' ⟨rv, R0, U', m', h', e1, q, hvr, hH, st⟩ => ?_
  subst e1
  have r1 := r.stp st hH
  exact hK _ _ (RP.step' (st.low r.base) (t rv h' q _ _ _ _ (r1.putR hk hvr)))
/-- A pure function's call, in any state. -/
theorem Fn.call {f : FuncId} {args : List V} {r : V} (c : Fn E f args r) : Call E f args h (fun r' h' => r' = r ∧ h' = h) := fun U m w as hH hV =>
  (c.calls hH hV).mono fun e w' ⟨R0, U', e1, hvr, st, hH', _⟩ => ⟨r, R0, U', m, h, e1, ⟨rfl, rfl⟩, hvr, hH', st⟩
end
end Go.Proofs.Ytmgckodihnmjoaa
