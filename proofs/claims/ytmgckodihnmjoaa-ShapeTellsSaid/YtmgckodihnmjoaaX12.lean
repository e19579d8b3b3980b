/-
  The reckoner: functions. Conditions: none.
-/
import Derived.Test.YtmgckodihnmjoaaX11
set_option linter.unusedVariables false
set_option linter.unusedSimpArgs false
set_option maxRecDepth 20000
namespace Go.Proofs.Ytmgckodihnmjoaa
open Go.RowKit Oc

mutual
/-- What is known of a value's numbers. -/
def rngD : D → Prop
  | .int k i => loK k ≤ i ∧ i ≤ hiK k
  | .lst n cs => n ≤ 9223372036854775807 ∧ rngDs cs
  | .rows n _ f => n ≤ 9223372036854775807 ∧ ∀ i, i < n → rngDs (f i)
  | .lptr cs => rngDs cs
  | .str s => s.size ≤ 9223372036854775807
  | .bool _ => True
  | .nsl => True
  | .nilp => True
  | .nmap => True
  | .fn _ => True
  | .nfn => True
  | .nifc => True
def rngDs : List D → Prop
  | [] => True
  | d :: r => rngD d ∧ rngDs r
end
theorem rngDs_iff : ∀ l : List D, rngDs l ↔ ∀ d ∈ l, rngD d
  | [] => by unfold rngDs; simp
  | d :: r => by unfold rngDs; rw [rngDs_iff r]; simp
theorem DR.rng {U : Nat → Prop} {w : World} {d : D} {r : Value} (h : DR U w d r) : rngD d := by
  induction h with
  | int k i h => unfold rngD; exact (inR_iff k i).1 h
  | str s h => unfold rngD; exact h
  | lst f hk hc ha hv ih =>
    unfold rngD
    rw [rngDs_iff]
    refine ⟨Nat.le_trans hk hc, fun d hd => ?_⟩
    obtain ⟨j, hj⟩ := List.getElem?_of_mem hd
    exact ih j d hj
  | @rows n e f r hl h ih =>
    unfold rngD at ih ⊢
    rw [rngDs_iff] at ih
    refine ⟨ih.1, fun i hi => (rngDs_iff _).2 fun d hd => ih.2 d ?_⟩
    unfold flatN
    exact List.mem_flatMap.2 ⟨i, List.mem_range.2 hi, hd⟩
  | lptr f hu ha hv ih =>
    unfold rngD
    rw [rngDs_iff]
    intro d hd
    obtain ⟨j, hj⟩ := List.getElem?_of_mem hd
    exact ih j d hj
  | _ => unfold rngD; trivial
mutual
def rngV : V → Prop
  | .d x => rngD x
  | .agg cs => rngL cs
  | .tup cs => rngL cs
  | _ => True
def rngL : List V → Prop
  | [] => True
  | v :: r => rngV v ∧ rngL r
end
theorem rngL_iff : ∀ l : List V, rngL l ↔ ∀ v ∈ l, rngV v
  | [] => by unfold rngL; simp
  | v :: r => by unfold rngL; rw [rngL_iff r]; simp
theorem VR.rng {U : Nat → Prop} {m : Nat → Option Nat} {n : Nat} {w : World} {v : V} {r : Value} (h : VR U m n w v r) : rngV v := by
  induction h with
  | d h => unfold rngV; exact h.rng
  | @agg cs vs hl h ih =>
    unfold rngV
    rw [rngL_iff]
    intro c hc
    obtain ⟨j, hj⟩ := List.getElem?_of_mem hc
    have hlt : j < vs.size := by rw [← hl]; exact (List.getElem?_eq_some_iff.1 hj).1
    exact ih j c vs[j] hj (by simp [hlt])
  | @tup cs vs hl h ih =>
    unfold rngV
    rw [rngL_iff]
    intro c hc
    obtain ⟨j, hj⟩ := List.getElem?_of_mem hc
    have hlt : j < vs.size := by rw [← hl]; exact (List.getElem?_eq_some_iff.1 hj).1
    exact ih j c vs[j] hj (by simp [hlt])
  | _ => unfold rngV; trivial
theorem VRs.rng {U : Nat → Prop} {m : Nat → Option Nat} {n : Nat} {w : World} {l : List V} {vs : Array Value} (h : VRs U m n w l vs) : rngL l := by
  rw [rngL_iff]
  intro c hc
  obtain ⟨j, hj⟩ := List.getElem?_of_mem hc
  have hlt : j < vs.size := by rw [← h.len]; exact (List.getElem?_eq_some_iff.1 hj).1
  exact (h.at_ j c vs[j] hj (by simp [hlt])).rng

section
variable {E : Env} {k B : Nat} {s s' : Slots} {h h' : Hp} {Q Q' : Post} {X : Fx} {c : Cs} {F : Fi}
theorem Fn.range {f : FuncId} {args : List V} {r : V} (hp : r.pure = true) (ha : pureL args = true) (c : rngL args → Fn E f args r) : Fn E f args r :=
  ⟨hp, ha, fun U m w vs hH hV => (c hV.rng).2.2 U m w vs hH hV⟩
theorem Call.range {f : FuncId} {args : List V} {R : V → Hp → Prop} (c : rngL args → Call E f args h R) : Call E f args h R := fun U m w vs hH hV => c hV.rng U m w vs hH hV
theorem BLe.tup {l l' : List V} (g : BLs h l l') : BLe h (.tup l) (.tup l') := fun U m w r hH hv => by
  cases hv with | tup hl hv =>
  refine .tup (by rw [← g.len]; exact hl) (fun j c v h1 h2 => ?_)
  have hj : j < l.length := by rw [g.len]; exact (List.getElem?_eq_some_iff.1 h1).1
  exact g.at_ j _ _ (List.getElem?_eq_getElem hj) h1 U m w v hH (hv j _ v (List.getElem?_eq_getElem hj) h2)
theorem BLs.of_BL {l l' : List V} (g : BL h l l') : BLs h l l' := by
  induction g with
  | nil => exact ⟨rfl, fun j x x' h => by simp at h⟩
  | cons g k ih => exact ⟨by simp [ih.len], fun j x x' h1 h2 => by
      cases j with
      | zero => simp at h1 h2; subst h1; subst h2; exact g
      | succ j => exact ih.at_ j x x' (by simpa using h1) (by simpa using h2)⟩
/-- A result: what was at hand is nobody's now. -/
noncomputable def lendT (b : Heap) (v : V) : Bool × V :=
  match v with
  | .tup vs => match lendL b vs with | (c, l) => (c, .tup l)
  | v => lend2 b v
theorem lendT_ok {c : Bool} {v v' : V} (h1 : lendT h.b v = (c, v')) (hc : c = true) : BLe h v v' := by
  unfold lendT at h1
  split at h1
  · rename_i vs
    generalize g1 : lendL h.b vs = p1 at h1
    obtain ⟨c1, l1⟩ := p1
    simp only [Prod.mk.injEq] at h1; obtain ⟨e, rfl⟩ := h1
    subst e
    exact .tup (.of_BL (lendL_ok g1 hc))
  · exact lend2_ok h1 hc
/-- A pure function's end. -/
def QS (E : Env) (rs : List ResultVar) (r : V) : Post := fun e s h => (e = .normal ∨ e = .ret) ∧ ∃ v, resC E.tab s h.b rs = some v ∧ BLe h v r
theorem QS.noPanic {rs : List ResultVar} {r : V} : NoPanic (QS E rs r) := fun c s h q => by
  rcases q.1 with h | h <;> cases h
theorem Fn.of_T {f : FuncId} {fn : Func} {code : Code} {nt : Nat} {rs : List ResultVar} {args : List V} {rv : V} (hf : E.P.funcs[f]? = some fn) (hb : fn.body = some code) (hnt : fn.ntmps = nt) (hle : Nat.ble args.length nt = true) (hres : fn.results = rs.toArray) (hp : rv.pure = true) (ha : pureL args = true)
    (t : T E nt 0 code (argS 0 args) ⟨0, []⟩ (QS E rs rv)) : Fn E f args rv := ⟨hp, ha, fun U m w vs hH hV => by
  have hle' := Nat.le_of_ble_eq_true hle
  have hlen := hV.len
  have r0 : SR nt 0 U m (argS 0 args) ⟨0, []⟩ { tmps := vs ++ Array.replicate (fn.ntmps - vs.size) undef, defers := [] } w := by
    refine ⟨fun t v hv => ?_, ?_, rfl, hH, Nat.le_refl _⟩
    · obtain ⟨_, h1⟩ := argS_get args 0 t v hv
      have ht : t < vs.size := by rw [← hlen]; exact (List.getElem?_eq_some_iff.1 h1).1
      exact ⟨vs[t], by simp [Array.getElem?_append, ht], hV.at_ t v _ h1 (by simp [ht])⟩
    · simp only [Array.size_append, Array.size_replicate]; omega
  refine calls_of_wp hf hb (wp_mono (t U m _ w r0) fun e a' w' ⟨U', m', s', h', q, r1, st⟩ => ?_)
  obtain ⟨he, v, hrv, hq⟩ := q
  obtain ⟨x, g1, g2⟩ := resC_run r1 hres hrv
  have g3 := hq U' m' w' x r1.heap g1
  have hno : ∀ x, ¬ Own m' [] x := by rintro x ⟨id, bk, h1, _⟩; simp [lk] at h1
  have hH' : HR (lent U' m' h'.b) m' h'.n [] w' := ⟨fun id blk h => by simp [lk] at h, fun id blk x h => by simp [lk] at h, fun id id' blk blk' x h => by simp [lk] at h, fun x hx => by
    rcases hx with hx | ⟨id, bk, h1, h2⟩
    · exact r1.heap.ulow x hx
    · exact (r1.heap.ok id bk x h1 h2).2⟩
  have st' : Stp 0 U m 0 [] w (lent U' m' h'.b) m' h'.n [] w' :=
    { hn := Nat.zero_le _, hm := fun i hi => by omega, hU := fun x hx => .inl (st.hU x hx), size := st.size, os := st.os, tape := st.tape, output := st.output, keep := st.keep, own := fun x hx h => absurd h (hno x), lim := fun x hx h => by
        rcases h with h | h
        · exact st.lim x hx h
        · exact .inr (st.own x hx h)
      hz := st.hz }
  have : a'.defers = [] ∧ ∃ v, (results fn a'.tmps).run E.P w' = .ok v w' ∧ ∃ (r : V) (R0 : Value) (U' : Nat → Prop) (m' : Nat → Option Nat) (h' : Hp), (Ending.returned v : Ending) = .returned R0 ∧ (r = rv) ∧ VR U' m' h'.n w' r R0 ∧ HR U' m' h'.n h'.b w' ∧ Stp 0 U m 0 [] w U' m' h'.n h'.b w' :=
    ⟨r1.defers, x, g2, rv, _, lent U' m' h'.b, m', ⟨h'.n, []⟩, rfl, rfl, g3, hH', st'⟩
  rcases he with rfl | rfl <;> exact this⟩
/-- The same, as it is shown. -/
noncomputable def QF (tab : List (Nat × Ty)) (rs : List ResultVar) (r : V) : Post := fun e s h =>
  match e with
  | .normal => (match resC tab s h.b rs with | some v => (match lendT h.b v with | (c, v') => cond c (v' = r) False) | none => Stk 4001)
  | .ret => (match resC tab s h.b rs with | some v => (match lendT h.b v with | (c, v') => cond c (v' = r) False) | none => Stk 4001)
  | _ => Stk 4002
theorem QF.ok {rs : List ResultVar} {r : V} {e : Exit} {s : Slots} {h : Hp} (q : QF E.tab rs r e s h) : QS E rs r e s h := by
  have key : (match resC E.tab s h.b rs with | some v => (match lendT h.b v with | (c, v') => cond c (v' = r) False) | none => Stk 4001) → ∃ v, resC E.tab s h.b rs = some v ∧ BLe h v r := fun q => by
    split at q
    · rename_i v hv
      generalize g1 : lendT h.b v = p1 at q
      obtain ⟨c, v'⟩ := p1
      cases c
      · exact False.elim q
      · have q : v' = r := q
        subst q
        exact ⟨v, hv, lendT_ok g1 rfl⟩
    · cases q
  cases e with
  | normal => exact ⟨.inl rfl, key q⟩
  | ret => exact ⟨.inr rfl, key q⟩
  | _ => cases q
/-- A function of the program, as the reckoner takes it. -/
structure FnI where
  nt : Nat
  res : List ResultVar
  code : Code
  F : Fi
  imp : Bool
structure FnOk (E : Env) (f : FuncId) (I : FnI) : Prop where
  fn : ∃ fn : Func, E.P.funcs[f]? = some fn ∧ fn.body = some I.code ∧ fn.ntmps = I.nt ∧ fn.results = I.res.toArray
  en : Enters E f
  ord : ordC I.F.ord I.code = true
noncomputable def fxOf (tab : List (Nat × Ty)) (eqs : List (Nat × List Kd)) (F : Fi) : Fx := ⟨tab, eqs, F.wr, F.hd, F.lit⟩
/-- A function's body, reckoned. -/
noncomputable def bodyX (tab : List (Nat × Ty)) (eqs : List (Nat × List Kd)) (c : Cs) (I : FnI) (args : List V) : Oc := runC (fxOf tab eqs I.F) c I.F 0 I.nt I.code I.F.kn (argS 0 args) ⟨0, []⟩
/-- What is left to be shown: shut, lest Lean's own tactics reckon it. -/
structure VC (P : Prop) : Prop where
  p : P
theorem Fn.of_vc {eqs : List (Nat × List Kd)} {f : FuncId} {I : FnI} {args : List V} {r : V} (hI : FnOk E f I) (he : EqT E eqs) (hc : CsOk E c) (hle : Nat.ble args.length I.nt = true) (hp : r.pure = true) (ha : pureL args = true)
    (hs : (bodyX E.tab eqs c I args).Sames) (h : rngL args → VC ((bodyX E.tab eqs c I args).vc ⟨0, []⟩ (QF E.tab I.res r))) : Fn E f args r := Fn.range hp ha fun hr => by
  obtain ⟨fn, h1, h2, h3, h4⟩ := hI.fn
  refine Fn.of_T h1 h2 h3 hle h4 hp ha (runC_ok (X := fxOf E.tab eqs I.F) (c := c) (F := I.F) rfl he hc I.code hI.ord I.F.kn _ _ QS.noPanic ?_)
  refine post_mono (fun e s h q => ?_) _ (vc_ok _ hs.sm (h hr).p)
  exact ⟨s, h, .refl _, .refl _, q.ok⟩
/-- What a body comes to, all ways in one. -/
noncomputable def finI (tab : List (Nat × Ty)) (rs : List ResultVar) (h : Hp) (o : Oc) : Option (List Ob × V) :=
  Oc.rec (fun e s hn _ => match e with
    | .exit _ => none
    | .goto _ => none
    | .panic _ => none
    | .outgrown => none
    | _ => match hn with
      | none => (match resC tab s h.b rs with | some v => (match lendT h.b v with | (c, v') => some ([.b c], v')) | none => none)
      | some h' => (match resC tab s h'.b rs with | some v => (match lendT h'.b v with | (c, v') => some ([.b c], v')) | none => none))
    (fun l _ ih => match ih with | some (l', v) => some (appO l l', v) | none => none)
    (fun b _ _ ih1 ih2 => match ih1 with | some (l1, v1) => (match ih2 with | some (l2, v2) => some (brO b l1 l2, selV b v1 v2) | none => none) | none => none)
    (fun _ => none) o
end
end Go.Proofs.Ytmgckodihnmjoaa
