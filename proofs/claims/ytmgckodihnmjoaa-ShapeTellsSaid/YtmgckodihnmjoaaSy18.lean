/-
  The logic's rule for entering a function whose results may lie in memory. Conditions: none.
-/
import Derived.Test.YtmgckodihnmjoaaSy17
set_option linter.unusedVariables false
set_option linter.unusedSimpArgs false
set_option maxRecDepth 20000
namespace Go.Proofs.Ytmgckodihnmjoaa
open Go.RowKit

/-- A result. -/
def res1 (tab : List (Nat × Ty)) (s : Slots) (b : Heap) : ResultVar → Option V
  | .tmp t => lk s t
  | .cell t ty => match lk s t with
    | some v => loadF tab b ty v
    | none => none
def resL (tab : List (Nat × Ty)) (s : Slots) (b : Heap) : List ResultVar → Option (List V)
  | [] => some []
  | x :: r => match res1 tab s b x, resL tab s b r with
    | some v, some l => some (v :: l)
    | _, _ => none
def resC (tab : List (Nat × Ty)) (s : Slots) (b : Heap) : List ResultVar → Option V
  | [x] => res1 tab s b x
  | l => match resL tab s b l with
    | some vs => some (.tup vs)
    | none => none
def tupR : List Value → Value
  | [v] => v
  | vs => .tuple vs.toArray
/-- A function's end. -/
def FinC (E : Env) (rs : List ResultVar) (Q : V → Hp → Prop) : Post := fun e s h => (e = .normal ∨ e = .ret) ∧ ∃ r, resC E.tab s h.b rs = some r ∧ Q r h
section
variable {E : Env} {k B : Nat} {s s' : Slots} {h h' : Hp} {Q Q' : Post} {U : Nat → Prop} {m : Nat → Option Nat} {a : Act} {w w' : World}
theorem FinC.ret {rs : List ResultVar} {Q : V → Hp → Prop} {r : V} (hr : resC E.tab s h.b rs = some r) (q : Q r h) : FinC E rs Q .ret s h := ⟨.inr rfl, r, hr, q⟩
theorem FinC.normal {rs : List ResultVar} {Q : V → Hp → Prop} {r : V} (hr : resC E.tab s h.b rs = some r) (q : Q r h) : FinC E rs Q .normal s h := ⟨.inl rfl, r, hr, q⟩
theorem FinC.noPanic {rs : List ResultVar} {R : V → Hp → Prop} : NoPanic (FinC E rs R) := fun c s h q => by
  obtain ⟨e, _⟩ := q
  rcases e with e | e <;> cases e
theorem res1_run (r : SR k B U m s h a w) {x : ResultVar} {v : V} (hx : res1 E.tab s h.b x = some v) : ∃ rv, VR U m h.n w v rv ∧ ((match x with | .tmp t => pure (a.tmps.getD t undef) | .cell t ty => do loadVar ty (← asAddr (a.tmps.getD t undef)) : Sem Value)).run E.P w = .ok rv w := by
  cases x with
  | tmp t => exact ⟨_, r.tmp hx, rfl⟩
  | cell t ty =>
    simp only [res1] at hx
    split at hx
    · rename_i u hu
      have y := loadF_ok (E := E) (k := k) (B := B) (s := s) (h := h) (o := { dst := none, op := .load ty (.tmp t), type := 0, pos := "", after := #[], guard := none }) rfl (x := .tmp t) hu hx
      obtain ⟨rv, h1, h2⟩ := y U m a w r
      refine ⟨rv, h1, ?_⟩
      have h3 := h2 w (fun _ => .refl w)
      simp only [execOp] at h3
      have hv := r.tmp hu
      generalize hve : a.eval (.tmp t) = pv at h3 hv
      have hve' : a.tmps.getD t undef = pv := hve
      have key : ∀ ad, pv = .pointer (some ad) → (do loadVar ty (← asAddr (a.tmps.getD t undef)) : Sem Value).run E.P w = .ok rv w := fun ad e => by
        subst e
        rw [hve']
        simp only [Instr.loadAt, Instr.sureAddr, Sem.run_bind, Sem.run_pure, Result.andThen_ok, asAddr] at h3 ⊢
        cases hl : (loadVar ty ad).run E.P w with
        | ok x w2 => rw [hl] at h3; simp only [Result.andThen_ok, Result.ok.injEq, Next.value.injEq] at h3; obtain ⟨rfl, rfl⟩ := h3; rfl
        | halt x w2 => rw [hl] at h3; cases h3
      unfold loadF at hx
      split at hx
      · cases hv; exact key _ rfl
      · cases hv with | d hv => cases hv; exact key _ rfl
      · cases hx
    · cases hx
theorem resL_run (r : SR k B U m s h a w) : ∀ (rs : List ResultVar) (l : List V), resL E.tab s h.b rs = some l → ∃ vs : List Value, PW (VR U m h.n w) l vs ∧
    (rs.mapM (fun | .tmp t => pure (a.tmps.getD t undef) | .cell t ty => do loadVar ty (← asAddr (a.tmps.getD t undef)) : ResultVar → Sem Value)).run E.P w = .ok vs w
  | [], l, hl => by simp only [resL, Option.some.injEq] at hl; subst hl; exact ⟨[], ⟨rfl, fun j c v h => by simp at h⟩, rfl⟩
  | x :: rs, l, hl => by
    simp only [resL] at hl
    split at hl
    · rename_i v l' h1 h2
      injection hl with hl; subst hl
      obtain ⟨rv, g1, g2⟩ := res1_run r h1
      obtain ⟨vs, g3, g4⟩ := resL_run r rs l' h2
      refine ⟨rv :: vs, ⟨by simp [g3.len], fun j c u hc hu => ?_⟩, ?_⟩
      · cases j with
        | zero => simp at hc hu; subst hc; subst hu; exact g1
        | succ j => exact g3.at_ j c u (by simpa using hc) (by simpa using hu)
      · rw [List.mapM_cons, Sem.run_bind]
        cases x <;> (dsimp only at g2 ⊢; rw [g2]; simp only [Result.andThen_ok, Sem.run_bind, g4, Sem.run_pure])
    · cases hl
theorem mapM_match {P : Program} {w : World} {g g' : ResultVar → Sem Value} (hg : ∀ x, (g x) = (g' x)) (rs : List ResultVar) : (rs.mapM g).run P w = (rs.mapM g').run P w := by
  have : g = g' := funext hg
  rw [this]
theorem resC_run (r : SR k B U m s h a w) {fn : Func} {rs : List ResultVar} (hr : fn.results = rs.toArray) {rv : V} (hx : resC E.tab s h.b rs = some rv) : ∃ x, VR U m h.n w rv x ∧ (results fn a.tmps).run E.P w = .ok x w := by
  have key : ∀ vs : List Value, (rs.mapM (fun | .tmp t => pure (a.tmps.getD t undef) | .cell t ty => do loadVar ty (← asAddr (a.tmps.getD t undef)) : ResultVar → Sem Value)).run E.P w = .ok vs w → (results fn a.tmps).run E.P w = .ok (tupR vs) w := fun vs hv => by
    unfold results
    rw [hr, Array.mapM_eq_mapM_toList, map_eq_pure_bind, Sem.run_bind, Sem.run_bind]
    rw [mapM_match (g' := fun | .tmp t => pure (a.tmps.getD t undef) | .cell t ty => do loadVar ty (← asAddr (a.tmps.getD t undef))) (fun x => by cases x <;> rfl), hv]
    simp only [Result.andThen_ok, Sem.run_pure]
    match vs with
    | [] => rfl
    | [v] => rfl
    | v :: u :: l => simp [tupR]
  match rs, hx with
  | [x], hx =>
    obtain ⟨v, g1, g2⟩ := res1_run r hx
    refine ⟨v, g1, key [v] ?_⟩
    rw [List.mapM_cons, Sem.run_bind]
    cases x <;> (dsimp only at g2 ⊢; rw [g2]; rfl)
  | [], hx =>
    simp only [resC, resL, Option.some.injEq] at hx; subst hx
    exact ⟨.tuple #[], .tup rfl (fun j c v h => by simp at h), key [] rfl⟩
  | x :: y :: l, hx =>
    simp only [resC] at hx
    split at hx
    · rename_i vs hvs
      injection hx with hx; subst hx
      obtain ⟨rvs, g1, g2⟩ := resL_run r _ _ hvs
      have hlen : rvs.length = (x :: y :: l).length := by
        have : ∀ (rs : List ResultVar) (l : List V), resL E.tab s h.b rs = some l → l.length = rs.length := by
          intro rs
          induction rs with
          | nil => intro l hl; simp only [resL, Option.some.injEq] at hl; subst hl; rfl
          | cons x rs ih =>
            intro l hl
            simp only [resL] at hl
            split at hl
            · rename_i v l' h1 h2; injection hl with hl; subst hl; simp [ih l' h2]
            · cases hl
        rw [← g1.len, this _ _ hvs]
      refine ⟨_, ?_, key rvs g2⟩
      match rvs, hlen with
      | v :: u :: r2, _ => exact .tup (by simpa using g1.len) (fun j c z hc hz => g1.at_ j c z hc (by simpa using hz))
    · cases hx
/-- A function is entered. -/
theorem Call.enterC {f : FuncId} {fn : Func} {c : Code} {nt : Nat} {rs : List ResultVar} {args : List V} {R : V → Hp → Prop} (hf : E.P.funcs[f]? = some fn) (hb : fn.body = some c) (hnt : fn.ntmps = nt) (hle : Nat.ble args.length nt = true) (hres : fn.results = rs.toArray)
    (t : T E nt h.n c (argS 0 args) h (FinC E rs R)) : Call E f args h R := fun U m w vs hH hV => by
  have hle' := Nat.le_of_ble_eq_true hle
  have hlen := hV.len
  have r0 : SR nt h.n U m (argS 0 args) h { tmps := vs ++ Array.replicate (fn.ntmps - vs.size) undef, defers := [] } w := by
    refine ⟨fun t v hv => ?_, ?_, rfl, hH, Nat.le_refl _⟩
    · obtain ⟨_, h1⟩ := argS_get args 0 t v hv
      have ht : t < vs.size := by rw [← hlen]; exact (List.getElem?_eq_some_iff.1 h1).1
      exact ⟨vs[t], by simp [Array.getElem?_append, ht], hV.at_ t v _ h1 (by simp [ht])⟩
    · simp only [Array.size_append, Array.size_replicate]; omega
  refine calls_of_wp hf hb (wp_mono (t U m _ w r0) fun e a' w' ⟨U', m', s', h', q, r1, st⟩ => ?_)
  obtain ⟨he, rv, hrv, hq⟩ := q
  obtain ⟨x, g1, g2⟩ := resC_run r1 hres hrv
  have : a'.defers = [] ∧ ∃ v, (results fn a'.tmps).run E.P w' = .ok v w' ∧ ∃ r R0 U' m' h', (Ending.returned v : Ending) = .returned R0 ∧ R r h' ∧ VR U' m' h'.n w' r R0 ∧ HR U' m' h'.n h'.b w' ∧ Stp h.n U m h.n h.b w U' m' h'.n h'.b w' :=
    ⟨r1.defers, x, g2, rv, _, U', m', h', rfl, hq, g1, r1.heap, st⟩
  rcases he with rfl | rfl <;> exact this
/-- A pure function, by its walk. -/
theorem Fn.enter {f : FuncId} {fn : Func} {c : Code} {nt : Nat} {rs : List ResultVar} {args : List V} {r : V} (hf : E.P.funcs[f]? = some fn) (hb : fn.body = some c) (hnt : fn.ntmps = nt) (hle : Nat.ble args.length nt = true) (hres : fn.results = rs.toArray) (hp : r.pure = true) (ha : pureL args = true)
    (t : T E nt 0 c (argS 0 args) ⟨0, []⟩ (FinC E rs (fun r' _ => r' = r))) : Fn E f args r := ⟨hp, ha, Call.enterC (h := ⟨0, []⟩) hf hb hnt hle hres t⟩
theorem FinC.eq {rs : List ResultVar} {r r' : V} (hr : resC E.tab s h.b rs = some r') (e : r' = r) : FinC E rs (fun r' _ => r' = r) .ret s h := FinC.ret hr e
theorem FinC.eqN {rs : List ResultVar} {r r' : V} (hr : resC E.tab s h.b rs = some r') (e : r' = r) : FinC E rs (fun r' _ => r' = r) .normal s h := FinC.normal hr e
end
end Go.Proofs.Ytmgckodihnmjoaa
