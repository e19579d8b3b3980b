/-
  The reckoner: functions that are called are reckoned in their turn; tables of what is known of some. Conditions: none.
-/
import Derived.Test.YtmgckodihnmjoaaX12
set_option linter.unusedVariables false
set_option linter.unusedSimpArgs false
set_option maxRecDepth 20000
namespace Go.Proofs.Ytmgckodihnmjoaa
open Go.RowKit Oc

section
variable {E : Env} {k B : Nat} {s s' : Slots} {h h' : Hp} {Q Q' : Post} {X : Fx} {c : Cs} {F : Fi}
theorem QS.weak {rs : List ResultVar} {r r' : V} (l : VLe r r') {e : Exit} {s : Slots} {h : Hp} (q : QS E rs r e s h) : QS E rs r' e s h := by
  obtain ⟨h1, v, h2, h3⟩ := q
  exact ⟨h1, v, h2, fun U m w z hH hv => l _ _ _ _ _ (h3 U m w z hH hv)⟩
theorem finI_ok {rs : List ResultVar} {h : Hp} : ∀ (o : Oc) {l : List Ob} {r : V}, finI E.tab rs h o = some (l, r) → obsL l → o.post h (QS E rs r)
  | .ok e s hn kn, l, r, h1, hl => by
    have key : ∀ (h' : Hp), (match resC E.tab s h'.b rs with | some v => (match lendT h'.b v with | (c, v') => some ([Ob.b c], v')) | none => none) = some (l, r) → (e = .normal ∨ e = .ret) → QS E rs r e s h' := fun h' q he => by
      split at q
      · rename_i v hv
        generalize g1 : lendT h'.b v = p1 at q
        obtain ⟨c, v'⟩ := p1
        injection q with q; simp only [Prod.mk.injEq] at q; obtain ⟨rfl, rfl⟩ := q
        exact ⟨he, v, hv, lendT_ok g1 (obsL_b hl).1⟩
      · cases q
    cases e with
    | exit _ => cases h1
    | goto _ => cases h1
    | panic _ => cases h1
    | normal => cases hn <;> exact key _ h1 (.inl rfl)
    | ret => cases hn <;> exact key _ h1 (.inr rfl)
    | outgrown => cases h1
  | .ob l0 x, l, r, h1, hl => by
    have h1' : (match finI E.tab rs h x with | some (l', v) => some (appO l0 l', v) | none => none) = some (l, r) := h1
    split at h1'
    · rename_i l' v hx
      injection h1' with h1'; simp only [Prod.mk.injEq] at h1'; obtain ⟨rfl, rfl⟩ := h1'
      rw [appO_eq] at hl
      obtain ⟨h4, h5⟩ := obsL_app hl
      exact ⟨h4, finI_ok x hx h5⟩
    · cases h1'
  | .br b x y, l, r, h1, hl => by
    have h1' : (match finI E.tab rs h x with | some (l1, v1) => (match finI E.tab rs h y with | some (l2, v2) => some (brO b l1 l2, selV b v1 v2) | none => none) | none => none) = some (l, r) := h1
    split at h1'
    · rename_i l1 v1 hx
      split at h1'
      · rename_i l2 v2 hy
        injection h1' with h1'; simp only [Prod.mk.injEq] at h1'; obtain ⟨rfl, rfl⟩ := h1'
        obtain ⟨q1, q2⟩ := brO_ok hl
        exact ⟨fun e => post_mono (fun _ _ _ q => q.weak (selV_t e)) x (finI_ok x hx (q1 e)), fun e => post_mono (fun _ _ _ q => q.weak (selV_f e)) y (finI_ok y hy (q2 e))⟩
      · cases h1'
    · cases h1'
  | .bad i, l, r, h1, hl => by cases h1
def FnsOk (E : Env) (fns : List (Nat × FnI)) : Prop := ∀ f I, lk fns f = some I → FnOk E f I
theorem FnsOk.nil : FnsOk E [] := fun f I h => by simp [lk] at h
theorem FnsOk.cons {f : Nat} {I : FnI} {r : List (Nat × FnI)} (h : FnOk E f I) (k : FnsOk E r) : FnsOk E ((f, I) :: r) := fun g J hg => by
  rw [lk_cons] at hg
  split at hg
  · rename_i e; subst e; injection hg with hg; subst hg; exact h
  · exact k g J hg
/-- All truth values plain, rounds as many as there are. -/
def FnI.plain (un : Option Nat) (I : FnI) : FnI := match un with | some n => ⟨I.nt, I.res, I.code, ⟨I.F.live, I.F.ord, I.F.hd, I.F.wr, n, true, []⟩, I.imp⟩ | none => I
theorem FnOk.plain {f : FuncId} {I : FnI} (h : FnOk E f I) (un : Option Nat) : FnOk E f (I.plain un) := by
  cases un with
  | none => exact h
  | some n => exact ⟨h.fn, h.en, h.ord⟩
/-- A call, reckoned. -/
noncomputable def inlP (tab : List (Nat × Ty)) (eqs : List (Nat × List Kd)) (fns : List (Nat × FnI)) (un : Option Nat) (c : Cs) (f : FuncId) (args : List V) : Option (List Ob × V) :=
  match lkr fns f with
  | some I => match Nat.ble args.length I.nt && !I.imp with
    | true => match finI tab I.res ⟨0, []⟩ (bodyX tab eqs c (I.plain un) args) with
      | some (l, r) => match r.pure && pureL args with
        | true => some (l, r)
        | false => some ([.p (Stk f)], .un)
      | none => some ([.p (Stk f), .p ((bodyX tab eqs c (I.plain un) args).vc ⟨0, []⟩ (fun _ _ _ => True))], .un)
    | false => none
  | none => none
theorem stk_ob {f : Nat} {r : List Ob} (h : obsL (.p (Stk f) :: r)) : False := by
  have := (obsL_cons h).1
  unfold Ob.all at this
  cases this
theorem inlP_ok {eqs : List (Nat × List Kd)} {fns : List (Nat × FnI)} {un : Option Nat} {f : FuncId} {args : List V} {l : List Ob} {r : V} (hf : FnsOk E fns) (he : EqT E eqs) (hc : CsOk E c) (h1 : inlP E.tab eqs fns un c f args = some (l, r)) (hl : obsL l) : Enters E f ∧ Fn E f args r := by
  unfold inlP at h1
  rw [lkr_eq] at h1
  split at h1
  · rename_i I hI
    split at h1
    · rename_i hle0
      have hle := (and_split hle0).1
      split at h1
      · rename_i l' r' hfin
        split at h1
        · rename_i hp
          injection h1 with h1; simp only [Prod.mk.injEq] at h1; obtain ⟨rfl, rfl⟩ := h1
          obtain ⟨hp, ha⟩ := and_split hp
          have hk := hf f I hI
          have hk' := hk.plain un
          obtain ⟨fn, g1, g2, g3, g4⟩ := hk'.fn
          have hres : (I.plain un).res = I.res := by cases un <;> rfl
          have hnt : (I.plain un).nt = I.nt := by cases un <;> rfl
          rw [← hres] at hfin
          refine ⟨hk.en, Fn.of_T g1 g2 g3 (by rw [hnt]; exact hle) g4 hp ha (runC_ok (X := fxOf E.tab eqs (I.plain un).F) (c := c) (F := (I.plain un).F) rfl he hc _ hk'.ord (I.plain un).F.kn _ _ QS.noPanic ?_)⟩
          exact post_mono (fun e s h q => ⟨s, h, .refl _, .refl _, q⟩) _ (finI_ok _ hfin hl)
        · injection h1 with h1; simp only [Prod.mk.injEq] at h1; obtain ⟨rfl, _⟩ := h1
          exact (stk_ob hl).elim
      · injection h1 with h1; simp only [Prod.mk.injEq] at h1; obtain ⟨rfl, _⟩ := h1
        exact (stk_ob hl).elim
    · cases h1
  · cases h1
/-- What a body comes to that may write what is at hand, all ways in one. -/
noncomputable def finC (tab : List (Nat × Ty)) (rs : List ResultVar) (h : Hp) (o : Oc) : Option (List Ob × V × Hp) :=
  Oc.rec (fun e s hn _ => match e with
    | .exit _ => none
    | .goto _ => none
    | .panic _ => none
    | .outgrown => none
    | _ => match hn with
      | none => (match resC tab s h.b rs with | some v => some ([], v, h) | none => none)
      | some h' => (match resC tab s h'.b rs with | some v => some ([], v, h') | none => none))
    (fun l _ ih => match ih with | some (l', v, h') => some (appO l l', v, h') | none => none)
    (fun b _ _ ih1 ih2 => match ih1 with | some (l1, v1, h1) => (match ih2 with | some (l2, v2, h2) => some (brO b l1 l2, selV b v1 v2, selH b h1 h2 h.b) | none => none) | none => none)
    (fun _ => none) o
/-- A function's end, of less is known. -/
def QC (E : Env) (rs : List ResultVar) (r : V) (h' : Hp) : Post := fun e s h => (e = .normal ∨ e = .ret) ∧ ∃ v, resC E.tab s h.b rs = some v ∧ VLe v r ∧ HLe h h'
theorem QC.weak {rs : List ResultVar} {r r' : V} {h1 h2 : Hp} (l : VLe r r') (g : HLe h1 h2) {e : Exit} {s : Slots} {h : Hp} (q : QC E rs r h1 e s h) : QC E rs r' h2 e s h := by
  obtain ⟨h1, v, h2, h3, h4⟩ := q
  exact ⟨h1, v, h2, h3.trans l, h4.trans g⟩
theorem QC.noPanic {rs : List ResultVar} {r : V} {h' : Hp} : NoPanic (QC E rs r h') := fun c s h q => by
  rcases q.1 with h | h <;> cases h
theorem finC_ok {rs : List ResultVar} {h : Hp} : ∀ (o : Oc) {l : List Ob} {r : V} {h' : Hp}, finC E.tab rs h o = some (l, r, h') → obsL l → o.post h (QC E rs r h')
  | .ok e s hn kn, l, r, h', h1, hl => by
    have key : ∀ (h2 : Hp), (match resC E.tab s h2.b rs with | some v => some (([] : List Ob), v, h2) | none => none) = some (l, r, h') → (e = .normal ∨ e = .ret) → QC E rs r h' e s h2 := fun h2 q he => by
      split at q
      · rename_i v hv
        injection q with q; simp only [Prod.mk.injEq] at q; obtain ⟨_, rfl, rfl⟩ := q
        exact ⟨he, v, hv, .refl _, .refl _⟩
      · cases q
    cases e with
    | exit _ => cases h1
    | goto _ => cases h1
    | panic _ => cases h1
    | normal => cases hn <;> exact key _ h1 (.inl rfl)
    | ret => cases hn <;> exact key _ h1 (.inr rfl)
    | outgrown => cases h1
  | .ob l0 x, l, r, h', h1, hl => by
    have h1' : (match finC E.tab rs h x with | some (l', v, h') => some (appO l0 l', v, h') | none => none) = some (l, r, h') := h1
    split at h1'
    · rename_i l' v h2 hx
      injection h1' with h1'; simp only [Prod.mk.injEq] at h1'; obtain ⟨rfl, rfl, rfl⟩ := h1'
      rw [appO_eq] at hl
      obtain ⟨h4, h5⟩ := obsL_app hl
      exact ⟨h4, finC_ok x hx h5⟩
    · cases h1'
  | .br b x y, l, r, h', h1, hl => by
    have h1' : (match finC E.tab rs h x with | some (l1, v1, h1) => (match finC E.tab rs h y with | some (l2, v2, h2) => some (brO b l1 l2, selV b v1 v2, selH b h1 h2 h.b) | none => none) | none => none) = some (l, r, h') := h1
    split at h1'
    · rename_i l1 v1 h2 hx
      split at h1'
      · rename_i l2 v2 h3 hy
        injection h1' with h1'; simp only [Prod.mk.injEq] at h1'; obtain ⟨rfl, rfl, rfl⟩ := h1'
        obtain ⟨q1, q2⟩ := brO_ok hl
        exact ⟨fun e => post_mono (fun _ _ _ q => q.weak (selV_t e) (selH_t e _ _ _)) x (finC_ok x hx (q1 e)), fun e => post_mono (fun _ _ _ q => q.weak (selV_f e) (selH_f e _ _ _)) y (finC_ok y hy (q2 e))⟩
      · cases h1'
    · cases h1'
  | .bad i, l, r, h', h1, hl => by cases h1
theorem HR.leH {U : Nat → Prop} {m : Nat → Option Nat} {w : World} {h h' : Hp} (r : HR U m h.n h.b w) (l : HLe h h') : HR U m h'.n h'.b w ∧ Stp h.n U m h.n h.b w U m h'.n h'.b w := by
  have r0 : SR 0 h.n U m [] h { tmps := #[], defers := [] } w := ⟨fun t v hv => by simp [lk] at hv, rfl, rfl, r, Nat.le_refl _⟩
  obtain ⟨r1, st⟩ := r0.leH l
  exact ⟨r1.heap, st⟩
theorem Call.of_T {f : FuncId} {fn : Func} {code : Code} {nt : Nat} {rs : List ResultVar} {args : List V} {rv : V} {h h' : Hp} (hf : E.P.funcs[f]? = some fn) (hb : fn.body = some code) (hnt : fn.ntmps = nt) (hle : Nat.ble args.length nt = true) (hres : fn.results = rs.toArray)
    (t : T E nt h.n code (argS 0 args) h (QC E rs rv h')) : Call E f args h (fun r' h'' => r' = rv ∧ h'' = h') := fun U m w vs hH hV => by
  have hle' := Nat.le_of_ble_eq_true hle
  have hlen := hV.len
  have r0 : SR nt h.n U m (argS 0 args) h { tmps := vs ++ Array.replicate (fn.ntmps - vs.size) undef, defers := [] } w := by
    refine ⟨fun t v hv => ?_, ?_, rfl, hH, Nat.le_refl _⟩
    · obtain ⟨_, h1⟩ := argS_get args 0 t v hv
      have ht : t < vs.size := by rw [← hlen]; exact (List.getElem?_eq_some_iff.1 h1).1
      exact ⟨vs[t], by simp [Array.getElem?_append, ht], hV.at_ t v _ h1 (by simp [ht])⟩
    · simp only [Array.size_append, Array.size_replicate]; omega
  refine calls_of_wp hf hb (wp_mono (t U m _ w r0) fun e a' w' ⟨U', m', s', h2, q, r1, st⟩ => ?_)
  obtain ⟨he, v, hrv, hq, hl⟩ := q
  obtain ⟨x, g1, g2⟩ := resC_run r1 hres hrv
  obtain ⟨r2, st2⟩ := r1.heap.leH hl
  have g3 : VR U' m' h'.n w' rv x := (g1.le hq).mono (fun _ h => h) (fun _ _ => rfl) (fun _ _ h => h) hl.1 (fun _ _ => rfl)
  have : a'.defers = [] ∧ ∃ v, (results fn a'.tmps).run E.P w' = .ok v w' ∧ ∃ (r : V) (R0 : Value) (U' : Nat → Prop) (m' : Nat → Option Nat) (h'' : Hp), (Ending.returned v : Ending) = .returned R0 ∧ (r = rv ∧ h'' = h') ∧ VR U' m' h''.n w' r R0 ∧ HR U' m' h''.n h''.b w' ∧ Stp h.n U m h.n h.b w U' m' h''.n h''.b w' :=
    ⟨r1.defers, x, g2, rv, _, U', m', h', rfl, ⟨rfl, rfl⟩, g3, r2, st.trans (st2.low r1.base)⟩
  rcases he with rfl | rfl <;> exact this
/-- A call that may write what is at hand, reckoned. -/
noncomputable def inlC (tab : List (Nat × Ty)) (eqs : List (Nat × List Kd)) (fns : List (Nat × FnI)) (un : Option Nat) (c : Cs) (f : FuncId) (args : List V) (h : Hp) : Option (List Ob × V × Hp) :=
  match lkr fns f with
  | some I => match Nat.ble args.length I.nt with
    | true => match finC tab I.res h (runC (fxOf tab eqs (I.plain un).F) c (I.plain un).F h.n I.nt I.code (I.plain un).F.kn (argS 0 args) h) with
      | some x => some x
      | none => some ([.p (Stk f), .p ((runC (fxOf tab eqs (I.plain un).F) c (I.plain un).F h.n I.nt I.code (I.plain un).F.kn (argS 0 args) h).vc h (fun _ _ _ => True))], .un, h)
    | false => none
  | none => none
theorem inlC_ok {eqs : List (Nat × List Kd)} {fns : List (Nat × FnI)} {un : Option Nat} {f : FuncId} {args : List V} {h h' : Hp} {l : List Ob} {r : V} (hf : FnsOk E fns) (he : EqT E eqs) (hc : CsOk E c) (h1 : inlC E.tab eqs fns un c f args h = some (l, r, h')) (hl : obsL l) : Enters E f ∧ Call E f args h (fun r' h'' => r' = r ∧ h'' = h') := by
  unfold inlC at h1
  rw [lkr_eq] at h1
  split at h1
  · rename_i I hI
    split at h1
    · rename_i hle
      split at h1
      · rename_i x hfin
        injection h1 with h1; subst h1
        have hk := hf f I hI
        have hk' := hk.plain un
        obtain ⟨fn, g1, g2, g3, g4⟩ := hk.fn
        have hcode : (I.plain un).code = I.code := by cases un <;> rfl
        have ho := hk'.ord
        rw [hcode] at ho
        refine ⟨hk.en, Call.of_T g1 g2 g3 hle g4 (runC_ok (X := fxOf E.tab eqs (I.plain un).F) (c := c) (F := (I.plain un).F) rfl he hc _ ho (I.plain un).F.kn _ _ QC.noPanic ?_)⟩
        exact post_mono (fun e s h q => ⟨s, h, .refl _, .refl _, q⟩) _ (finC_ok _ hfin hl)
      · injection h1 with h1; simp only [Prod.mk.injEq] at h1; obtain ⟨rfl, _⟩ := h1
        exact (stk_ob hl).elim
    · cases h1
  · cases h1
/-- Calls, so deep, reckoned, where the tables don't tell. -/
noncomputable def csN (tab : List (Nat × Ty)) (eqs : List (Nat × List Kd)) (fns : List (Nat × FnI)) (un : Option Nat) (T : Cs) (n : Nat) : Cs :=
  Nat.rec T (fun _ c => ⟨fun f args => match T.P f args with | some x => some x | none => inlP tab eqs fns un c f args, fun f args h => match T.C f args h with | some x => some x | none => inlC tab eqs fns un c f args h⟩) n
theorem csN_ok {eqs : List (Nat × List Kd)} {fns : List (Nat × FnI)} {un : Option Nat} {T : Cs} (hf : FnsOk E fns) (he : EqT E eqs) (hT : CsOk E T) : ∀ n, CsOk E (csN E.tab eqs fns un T n)
  | 0 => hT
  | n + 1 => by
    refine ⟨fun f args l r h1 hl => ?_, fun f args h l r h' h1 hl => ?_⟩
    · have h1' : (match T.P f args with | some x => some x | none => inlP E.tab eqs fns un (csN E.tab eqs fns un T n) f args) = some (l, r) := h1
      split at h1'
      · rename_i hx; injection h1' with h1'; subst h1'; exact hT.P _ _ _ _ hx hl
      · exact inlP_ok hf he (csN_ok hf he hT n) h1' hl
    · have h1' : (match T.C f args h with | some x => some x | none => inlC E.tab eqs fns un (csN E.tab eqs fns un T n) f args h) = some (l, r, h') := h1
      split at h1'
      · rename_i hx; injection h1' with h1'; subst h1'; exact hT.C _ _ _ _ _ _ hx hl
      · exact inlC_ok hf he (csN_ok hf he hT n) h1' hl
/-- What is known of some pure functions. -/
def PtOk (E : Env) (pt : List (Nat × (List V → Option (List Ob × V)))) : Prop := ∀ f g, lk pt f = some g → Enters E f ∧ ∀ args l r, g args = some (l, r) → obsL l → Fn E f args r
theorem PtOk.nil : PtOk E [] := fun f I h => by simp [lk] at h
theorem PtOk.cons {f : Nat} {g : List V → Option (List Ob × V)} {r : List (Nat × (List V → Option (List Ob × V)))} (he : Enters E f) (h : ∀ args l r, g args = some (l, r) → obsL l → Fn E f args r) (k : PtOk E r) : PtOk E ((f, g) :: r) := fun g' J hg => by
  rw [lk_cons] at hg
  split at hg
  · rename_i e; subst e; injection hg with hg; subst hg; exact ⟨he, h⟩
  · exact k g' J hg
noncomputable def csP (pt : List (Nat × (List V → Option (List Ob × V)))) : Cs := ⟨fun f args => match lkr pt f with | some g => g args | none => none, fun _ _ _ => none⟩
theorem csP_ok {pt : List (Nat × (List V → Option (List Ob × V)))} (h : PtOk E pt) : CsOk E (csP pt) := by
  refine ⟨fun f args l r h1 hl => ?_, fun f args h l r h' h1 => ?_⟩
  · have h1' : (match lkr pt f with | some g => g args | none => none) = some (l, r) := h1
    rw [lkr_eq] at h1'
    split at h1'
    · rename_i g hg
      exact ⟨(h f g hg).1, (h f g hg).2 _ _ _ h1' hl⟩
    · cases h1'
  · cases (h1 : (none : Option (List Ob × V × Hp)) = some (l, r, h'))
theorem EqT.nil : EqT E [] := ⟨fun t ks h => by simp [lk] at h⟩
theorem EqT.cons {t : Nat} {ks : List Kd} {r : List (Nat × List Kd)} (h : EqTy E 10000 t ks) (g : E.P.eqGuardType E.P.depth t = false) (k : EqT E r) : EqT E ((t, ks) :: r) := ⟨fun u js hu => by
  rw [lk_cons] at hu
  split at hu
  · rename_i e; subst e; injection hu with hu; subst hu; exact ⟨h, g⟩
  · exact k.ok u js hu⟩
end
/-- The same function, with other words to the reckoner. -/
def FnI.tune (I : FnI) (unr : Nat) (kn wr : List Nat) : FnI := ⟨I.nt, I.res, I.code, ⟨I.F.live, I.F.ord, I.F.hd, wr, unr, I.F.lit, kn⟩, I.imp⟩
theorem FnOk.tune {E : Env} {f : FuncId} {I : FnI} (h : FnOk E f I) (unr : Nat) (kn wr : List Nat) : FnOk E f (I.tune unr kn wr) := ⟨h.fn, h.en, h.ord⟩
def bodyOf (f : Func) : Code := match f.body with | some c => c | none => .skip
theorem vc_of {P P' : Prop} (e : P = P') (h : P') : VC P := ⟨e ▸ h⟩
theorem vc_eq {P : Prop} {α : Type} (a : α) (e : P = (a = a)) : VC P := ⟨e ▸ rfl⟩
theorem need_iff {c : Bool} {P : Prop} : (cond c P False) ↔ (c = true ∧ P) := by cases c <;> simp
theorem way_iff {c : Bool} {P Q : Prop} : (cond c P Q) ↔ ((c = true → P) ∧ (c = false → Q)) := by cases c <;> simp
end Go.Proofs.Ytmgckodihnmjoaa
