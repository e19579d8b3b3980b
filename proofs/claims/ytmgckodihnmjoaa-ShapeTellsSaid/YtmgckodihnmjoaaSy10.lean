/-
  The logic's rules for calls: a function is entered, and called; pure functions. Conditions: none.
-/
import Derived.Test.YtmgckodihnmjoaaSy9
import Derived.BigCall
set_option linter.unusedVariables false
set_option linter.unusedSimpArgs false
set_option maxRecDepth 20000
namespace Go.Proofs.Ytmgckodihnmjoaa
open Go.RowKit

def argS : Nat → List V → Slots
  | _, [] => []
  | i, v :: r => (i, v) :: argS (i + 1) r
theorem argS_get : ∀ (l : List V) (i t : Nat) (v : V), lk (argS i l) t = some v → i ≤ t ∧ l[t - i]? = some v
  | [], i, t, v, h => by simp [argS, lk] at h
  | x :: r, i, t, v, h => by
    simp only [argS] at h
    rw [lk_cons] at h
    split at h
    · rename_i e; subst e; injection h with h; subst h; exact ⟨Nat.le_refl _, by simp⟩
    · rename_i hne
      obtain ⟨h1, h2⟩ := argS_get r (i + 1) t v h
      refine ⟨by omega, ?_⟩
      rw [show t - i = (t - (i + 1)) + 1 by omega]; simpa using h2
def getL (s : Slots) : List Nat → Option (List V)
  | [] => some []
  | t :: r => match lk s t, getL s r with
    | some v, some l => some (v :: l)
    | _, _ => none
/-- A function's result. -/
def resV (s : Slots) : List Nat → Option V
  | [t] => lk s t
  | ts => (getL s ts).map .tup
def resR (g : Nat → Value) : List Nat → Value
  | [t] => g t
  | ts => .tuple (ts.map g).toArray
/-- A function's end. -/
def Fin (rs : List Nat) (Q : V → Hp → Prop) : Post := fun e s h => (e = .normal ∨ e = .ret) ∧ ∃ r, resV s rs = some r ∧ Q r h
theorem Fin.ret {rs : List Nat} {Q : V → Hp → Prop} {s : Slots} {h : Hp} {r : V} (hr : resV s rs = some r) (q : Q r h) : Fin rs Q .ret s h := ⟨.inr rfl, r, hr, q⟩
theorem Fin.normal {rs : List Nat} {Q : V → Hp → Prop} {s : Slots} {h : Hp} {r : V} (hr : resV s rs = some r) (q : Q r h) : Fin rs Q .normal s h := ⟨.inl rfl, r, hr, q⟩

section
variable {E : Env} {k B : Nat} {s s' : Slots} {h h' : Hp} {Q Q' : Post} {U : Nat → Prop} {m : Nat → Option Nat} {a : Act} {w w' : World} {o : Oper} {v : V} {d : Nat} {t : TypeId} {x y : Operand}

theorem getL_ok (r : SR k B U m s h a w) : ∀ (ts : List Nat) (l : List V), getL s ts = some l → l.length = ts.length ∧ ∀ (j : Nat) (c : V) (v : Value), l[j]? = some c → (ts.map fun t => a.tmps.getD t undef)[j]? = some v → VR U m h.n w c v
  | [], l, hl => by simp only [getL, Option.some.injEq] at hl; subst hl; exact ⟨rfl, fun j c v hc => by simp at hc⟩
  | t :: ts, l, hl => by
    simp only [getL] at hl
    split at hl
    · rename_i v l' h1 h2
      injection hl with hl; subst hl
      obtain ⟨e1, e2⟩ := getL_ok r ts l' h2
      refine ⟨by simp [e1], fun j c u hc hu => ?_⟩
      cases j with
      | zero => simp only [List.map_cons, List.getElem?_cons_zero, Option.some.injEq] at hc hu; subst hc; subst hu; exact r.tmp h1
      | succ j => exact e2 j c u (by simpa using hc) (by simpa using hu)
    · cases hl
theorem run_mapM {P : Program} {g : ResultVar → Sem Value} {F : Nat → Value} {w : World} (hg : ∀ t, (g (.tmp t)).run P w = .ok (F t) w) : ∀ ts : List Nat, ((ts.map ResultVar.tmp).mapM g).run P w = .ok (ts.map F) w
  | [] => rfl
  | t :: ts => by simp only [List.map_cons, List.mapM_cons, Sem.run_bind, hg t, Sem.run_pure, Result.andThen_ok, run_mapM hg ts]
theorem run_results {P : Program} {fn : Func} {rs : List Nat} (hr : fn.results = (rs.map ResultVar.tmp).toArray) (tmps : Array Value) (w : World) :
    (results fn tmps).run P w = .ok (resR (fun t => tmps.getD t undef) rs) w := by
  unfold results
  rw [hr, Array.mapM_eq_mapM_toList, map_eq_pure_bind, List.toList_toArray, Sem.run_bind, Sem.run_bind, run_mapM (F := fun t => tmps.getD t undef) (fun t => rfl) rs]
  simp only [Result.andThen_ok, Sem.run_pure]
  match rs with
  | [] => rfl
  | [t] => rfl
  | t :: u :: r => simp [resR]
theorem res_ok (r : SR k B U m s h a w) {rs : List Nat} {rv : V} (hr : resV s rs = some rv) : VR U m h.n w rv (resR (fun t => a.tmps.getD t undef) rs) := by
  match rs, hr with
  | [t], hr => exact r.tmp hr
  | [], hr => simp only [resV, getL, Option.map_some, Option.some.injEq] at hr; subst hr; exact .tup rfl (fun j c v hc => by simp at hc)
  | t :: u :: l, hr =>
    simp only [resV] at hr
    obtain ⟨vs, h1, rfl⟩ := Option.map_eq_some_iff.1 hr
    obtain ⟨e1, e2⟩ := getL_ok r _ _ h1
    exact .tup (by simp [e1]) (fun j c v hc hv => e2 j c v hc (by simpa using hv))
/-- A function is entered. -/
theorem Call.enter {f : FuncId} {fn : Func} {c : Code} {nt : Nat} {rs : List Nat} {args : List V} {R : V → Hp → Prop} (hf : E.P.funcs[f]? = some fn) (hb : fn.body = some c) (hnt : fn.ntmps = nt) (hle : Nat.ble args.length nt = true) (hres : fn.results = (rs.map ResultVar.tmp).toArray)
    (t : T E nt h.n c (argS 0 args) h (Fin rs R)) : Call E f args h R := fun U m w vs hH hV => by
  have hle' := Nat.le_of_ble_eq_true hle
  have hlen := hV.len
  have r0 : SR nt h.n U m (argS 0 args) h { tmps := vs ++ Array.replicate (fn.ntmps - vs.size) undef, defers := [] } w := by
    refine ⟨fun t v hv => ?_, ?_, rfl, hH, Nat.le_refl _⟩
    · obtain ⟨_, h1⟩ := argS_get args 0 t v hv
      have ht : t < vs.size := by rw [← hlen]; exact (List.getElem?_eq_some_iff.1 h1).1
      exact ⟨vs[t], by simp [Array.getElem?_append, ht], hV.at_ t v _ h1 (by simp [ht])⟩
    · simp only [Array.size_append, Array.size_replicate]; omega
  refine calls_of_wp hf hb (wp_mono (t U m _ w r0) fun e a' w' ⟨U', m', s', h', q, r1, st⟩ => ?_)
  obtain ⟨he, rv, hrv, hq⟩ := q
  have : a'.defers = [] ∧ ∃ v, (results fn a'.tmps).run E.P w' = .ok v w' ∧ ∃ r R0 U' m' h', (Ending.returned v : Ending) = .returned R0 ∧ R r h' ∧ VR U' m' h'.n w' r R0 ∧ HR U' m' h'.n h'.b w' ∧ Stp h.n U m h.n h.b w U' m' h'.n h'.b w' :=
    ⟨r1.defers, _, run_results hres _ _, rv, _, U', m', h', rfl, hq, res_ok r1 hrv, r1.heap, st⟩
  rcases he with rfl | rfl <;> exact this
theorem Call.mono {f : FuncId} {args : List V} {R R' : V → Hp → Prop} (c : Call E f args h R) (hR : ∀ r h, R r h → R' r h) : Call E f args h R' := fun U m w vs hH hV =>
  (c U m w vs hH hV).mono fun e w' ⟨r, R0, U', m', h', h1, h2, rest⟩ => ⟨r, R0, U', m', h', h1, hR _ _ h2, rest⟩

/-- Operands' values. -/
def evL (s : Slots) : List Operand → Option (List V)
  | [] => some []
  | x :: r => match evO s x, evL s r with
    | some v, some l => some (v :: l)
    | _, _ => none
/-- Of arguments less is known. -/
inductive AL : List V → List V → Prop where
  | nil : AL [] []
  | cons {v v' : V} {l l' : List V} (h : VLe v v') (k : AL l l') : AL (v :: l) (v' :: l')
theorem AL.refl : ∀ l : List V, AL l l
  | [] => .nil
  | _ :: r => .cons (.refl _) (AL.refl r)
theorem evL_ok (r : SR k B U m s h a w) : ∀ (xs : List Operand) (l : List V), evL s xs = some l → VRs U m h.n w l (xs.map a.eval).toArray
  | [], l, hl => by simp only [evL, Option.some.injEq] at hl; subst hl; exact ⟨rfl, fun j x v h1 => by simp at h1⟩
  | x :: xs, l, hl => by
    simp only [evL] at hl
    split at hl
    · rename_i v l' h1 h2
      injection hl with hl; subst hl
      have ih := evL_ok r xs l' h2
      refine ⟨by have := ih.len; simpa using this, fun j c u hc hu => ?_⟩
      cases j with
      | zero => simp at hc hu; subst hc; subst hu; exact r.opnd h1
      | succ j => exact ih.at_ j c u (by simpa using hc) (by simpa using hu)
    · cases hl
theorem VRs.le {n : Nat} : ∀ {l l' : List V} {vs : Array Value}, VRs U m n w l vs → AL l l' → VRs U m n w l' vs := by
  intro l l' vs hV hA
  refine ⟨?_, ?_⟩
  · have : l.length = l'.length := by
      clear hV
      induction hA with
      | nil => rfl
      | cons _ _ ih => simp [ih]
    rw [← this]; exact hV.len
  · have key : ∀ (l l' : List V), AL l l' → ∀ (j : Nat) (x' : V), l'[j]? = some x' → ∃ x, l[j]? = some x ∧ VLe x x' := by
      intro l l' hA
      induction hA with
      | nil => intro j x' hx; simp at hx
      | @cons v v' l l' h k ih =>
        intro j x' hx
        cases j with
        | zero => simp at hx; subst hx; exact ⟨v, rfl, h⟩
        | succ j => exact ih j x' (by simpa using hx)
    intro j x' v hx hv
    obtain ⟨x, h1, h2⟩ := key l l' hA j x' hx
    exact (hV.at_ j x v h1 hv).le h2
/-- What an operation calls. -/
def Enters (E : Env) (f : FuncId) : Prop := ∀ args w, (callFunc f args).run E.P w = .ok (.enter f args) w
variable {ops : Array Oper} {rest : List Oper}
def putR (d : Option Nat) (v : V) (s : Slots) : Slots := match d with | some d => (d, v) :: s | none => s
def dstOk (d : Option Nat) (k : Nat) : Bool := match d with | some d => Nat.blt d k | none => true
theorem SR.putR (r : SR k B U m s h a w) {d : Option Nat} (hk : dstOk d k = true) {v : V} {x : Value} (hv : VR U m h.n w v x) : SR k B U m (putR d v s) h (a.put d x) w := by
  cases d with
  | none => exact r
  | some d => exact r.put hk hv
theorem call_run {f : FuncId} {xs : Array Operand} {ats : Array TypeId} {args : List V} {vs : List V} (r : SR k B U m s h a w) (ho : o.op = .call { callee := .value (.func f), args := xs, argTypes := ats }) (he : Enters E f) (hv : evL s xs.toList = some vs) (ha : AL vs args) :
    ∃ as, (execOp a.eval o).run E.P w = .ok (.enter f as) w ∧ VRs U m h.n w args as := by
  refine ⟨xs.map a.eval, ?_, ?_⟩
  · have : execOp a.eval o = callFunc f (#[] ++ xs.map a.eval ++ #[]) := by
      cases o; subst ho; rfl
    rw [this, Array.empty_append, Array.append_empty]; exact he _ w
  · have := (evL_ok r xs.toList vs hv).le ha
    rwa [show (xs.toList.map a.eval).toArray = xs.map a.eval by rw [← Array.toList_map]] at this
/-- A call. -/
theorem TO.call {f : FuncId} {xs : Array Operand} {ats : Array TypeId} {args vs : List V} {R : V → Hp → Prop} (ho : o.op = .call { callee := .value (.func f), args := xs, argTypes := ats })
    (c : Call E f args h R) (he : Enters E f) (hv : evL s xs.toList = some vs) (ha : AL vs args) (hg : o.guard = none) (hk : dstOk o.dst k = true) (t : ∀ r h', R r h' → TO E k B ops rest (putR o.dst r s) h' Q) : TO E k B ops (o :: rest) s h Q := fun U m a w r => by
  obtain ⟨as, h1, h2⟩ := call_run r ho he hv ha
  refine wpList_plain hg fun K hK => ?_
  unfold Oper.wp
  rw [h1, Oper.upon_enter]
  refine (c U m w as r.heap h2).mono fun e w' ⟨rv, R0, U', m', h', e1, q, hvr, hH, st⟩ => ?_
  subst e1
  have r1 := r.stp st hH
  exact hK _ _ (RP.step' (st.low r.base) (t rv h' q _ _ _ _ (r1.putR hk hvr)))

mutual
/-- Names no block at hand. -/
def V.pure : V → Bool
  | .d _ => true
  | .un => true
  | .agg cs => pureL cs
  | .tup vs => pureL vs
  | .fn _ a c => pureL a && pureL c
  | .ifc _ v => v.pure
  | _ => false
def pureL : List V → Bool
  | [] => true
  | v :: r => v.pure && pureL r
end
theorem pureL_get {l : List V} (h : pureL l = true) {j : Nat} {v : V} (hj : l[j]? = some v) : v.pure = true := by
  induction l generalizing j with
  | nil => simp at hj
  | cons x r ih =>
    simp only [pureL, Bool.and_eq_true] at h
    cases j with
    | zero => simp at hj; subst hj; exact h.1
    | succ j => exact ih h.2 (by simpa using hj)
theorem pureL_map (l : List D) : pureL (l.map .d) = true := by
  induction l with
  | nil => rfl
  | cons x r ih => simp only [List.map_cons, pureL, ih]; rfl
theorem VR.elsewhere {n n' : Nat} {m' : Nat → Option Nat} {v : V} {r : Value} (h : VR U m n w v r) (hp : v.pure = true) : VR U m' n' w v r := by
  induction h with
  | un v => exact .un v
  | d h => exact .d h
  | sl => cases hp
  | sl0 => cases hp
  | ptr => cases hp
  | map => cases hp
  | el => cases hp
  | fn la lc ha hc iha ihc =>
    simp only [V.pure, Bool.and_eq_true] at hp
    exact .fn la lc (fun j x v h1 h2 => iha j x v h1 h2 (pureL_get hp.1 h1)) (fun j x v h1 h2 => ihc j x v h1 h2 (pureL_get hp.2 h1))
  | ifc h ih => simp only [V.pure] at hp; exact .ifc (ih hp)
  | agg hl h ih => simp only [V.pure] at hp; exact .agg hl (fun j x v h1 h2 => ih j x v h1 h2 (pureL_get hp h1))
  | tup hl h ih => simp only [V.pure] at hp; exact .tup hl (fun j x v h1 h2 => ih j x v h1 h2 (pureL_get hp h1))
/-- A pure function: what hangs on no block that may be written comes to what hangs on none. -/
def Fn (E : Env) (f : FuncId) (args : List V) (r : V) : Prop := r.pure = true ∧ pureL args = true ∧ Call E f args ⟨0, []⟩ (fun r' _ => r' = r)
theorem Fn.calls {f : FuncId} {args : List V} {rv : V} (c : Fn E f args rv) {n : Nat} {b : Heap} {as : Array Value} (hH : HR U m n b w) (hV : VRs U m n w args as) :
    Calls E.P f as w fun e w' => ∃ R0 U', e = .returned R0 ∧ VR U' m n w' rv R0 ∧ Stp n U m n b w U' m n b w' ∧ HR U' m n b w' ∧ Same0 w w' := by
  obtain ⟨hp, hpa, c⟩ := c
  have hH0 : HR U (fun _ => none) 0 [] w := ⟨fun id blk h => by simp [lk] at h, fun id blk x h => by simp [lk] at h, fun id id' blk blk' x h => by simp [lk] at h, hH.ulow⟩
  refine (c U (fun _ => none) w as hH0 ⟨hV.len, fun j x v h1 h2 => (hV.at_ j x v h1 h2).elsewhere (pureL_get hpa h1)⟩).mono fun e w' ⟨r, R0, U', m', h', e1, q, hvr, hH', st⟩ => ?_
  subst q
  have hno : ∀ x, ¬ Own (fun _ => none) [] x := by rintro x ⟨id, bk, h1, _⟩; simp [lk] at h1
  have hs : Same0 w w' := fun x hx => st.keep x hx (hno x)
  have hU : ∀ x, U x → w'.heap[x]? = w.heap[x]? := fun x hx => hs x (hH.ulow x hx)
  -- the blocks that the caller has at hand are left out
  refine ⟨R0, U', e1, hvr.elsewhere hp, ?_, ?_, hs⟩
  · exact { hn := Nat.le_refl _, hm := fun _ _ => rfl, hU := st.hU, size := st.size, os := st.os, tape := st.tape, output := st.output, keep := fun x hx _ => hs x hx, own := fun _ _ h => h, lim := fun x hx h => (st.lim x hx h).elim .inl (fun h => absurd h (hno x)), hz := st.hz }
  · refine ⟨fun id blk h1 => ?_, fun id blk x h1 h2 => ?_, hH.inj, fun x hx => ?_⟩
    · obtain ⟨g1, g2⟩ := hH.live id blk h1
      exact ⟨g1, g2.mono st.hU hU st.hz (Nat.le_refl _) (fun _ _ => rfl) (fun x hx => hs x (hH.ok id blk x h1 hx).2)⟩
    · obtain ⟨g1, g2⟩ := hH.ok id blk x h1 h2
      exact ⟨fun hx => (st.lim x g2 hx).elim g1 (hno x), Nat.lt_of_lt_of_le g2 st.size⟩
    · exact hH'.ulow x hx
/-- A call of a pure function. -/
theorem TO.fn {f : FuncId} {xs : Array Operand} {ats : Array TypeId} {args vs : List V} {rv : V} (ho : o.op = .call { callee := .value (.func f), args := xs, argTypes := ats })
    (c : Fn E f args rv) (he : Enters E f) (hv : evL s xs.toList = some vs) (ha : AL vs args) (hg : o.guard = none) (hk : dstOk o.dst k = true) (t : TO E k B ops rest (putR o.dst rv s) h Q) : TO E k B ops (o :: rest) s h Q := fun U m a w r => by
  obtain ⟨as, h1, h2⟩ := call_run r ho he hv ha
  refine wpList_plain hg fun K hK => ?_
  unfold Oper.wp
  rw [h1, Oper.upon_enter]
  refine (c.calls r.heap h2).mono fun e w' ⟨R0, U', e1, hvr, st, hH, _⟩ => ?_
  subst e1
  have r1 := r.stp st hH
  exact hK _ _ (RP.step' (st.low r.base) (t _ _ _ _ (r1.putR hk hvr)))
end
end Go.Proofs.Ytmgckodihnmjoaa
