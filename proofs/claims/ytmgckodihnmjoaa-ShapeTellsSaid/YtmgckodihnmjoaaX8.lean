/-
  The reckoner: what operations that make and write come to. Conditions: none.
-/
import Derived.Test.YtmgckodihnmjoaaX7
set_option linter.unusedVariables false
set_option linter.unusedSimpArgs false
set_option maxRecDepth 20000
namespace Go.Proofs.Ytmgckodihnmjoaa
open Go.RowKit

section
variable {E : Env} {k B : Nat} {s s' : Slots} {h h' : Hp} {Q Q' : Post} {U : Nat → Prop} {m : Nat → Option Nat} {a : Act} {w w' : World} {o : Oper} {v : V} {d n : Nat} {t u e : TypeId} {td ed : TypeDesc} {tz tb ez eb : Nat} {tr er : Option Value} {x y : Operand} {ρ g : Bool} {ops : Array Oper} {rest : List Oper} {K K' : Slots → Hp → Prop}

def unDs : List V → Option (List D)
  | [] => some []
  | v :: r => match v with
    | .d x => match unDs r with
      | some l => some (x :: l)
      | none => none
    | _ => none
theorem unDs_eq : ∀ l : List V, unDs l = unD l
  | [] => rfl
  | .d x :: r => by simp only [unDs, unD, unDs_eq r]; cases unD r <;> rfl
  | .un :: r => rfl
  | .sl .. :: r => rfl
  | .ptr .. :: r => rfl
  | .el .. :: r => rfl
  | .map _ :: r => rfl
  | .fn .. :: r => rfl
  | .ifc .. :: r => rfl
  | .agg _ :: r => rfl
  | .tup _ :: r => rfl
/-- An element type: its cells, its bytes, the cells of its zero value. -/
noncomputable def elI (tab : List (Nat × Ty)) (t : Nat) : Option (Nat × Nat × List V) :=
  match lkr tab t with
  | some ty => match slD ty.d with
    | some e => match lkr tab e with
      | some te => match te.zero with
        | some z => match absL z.cells.toList with
          | some zl => match lenN te.size zl with
            | true => some (te.size, te.bytes, zl)
            | false => none
          | none => none
        | none => none
      | none => none
    | none => none
  | none => none
theorem elI_ok {t ez eb : Nat} {zl : List V} (h1 : elI E.tab t = some (ez, eb, zl)) : ∃ td tz tb tr e ed er z, lk E.tab t = some ⟨td, tz, tb, tr⟩ ∧ td = .slice e ∧ lk E.tab e = some ⟨ed, ez, eb, er⟩ ∧ er = some z ∧ z.cells.size = ez ∧ absL z.cells.toList = some zl := by
  unfold elI at h1
  rw [lkr_eq] at h1
  split at h1
  · rename_i ty ht
    split at h1
    · rename_i hd
      have hd := slD_ok hd
      rw [lkr_eq] at h1
      split at h1
      · rename_i te hte
        split at h1
        · rename_i z hz
          split at h1
          · rename_i zl' hzl
            split at h1
            · rename_i hl
              injection h1 with h1; simp only [Prod.mk.injEq] at h1; obtain ⟨g1, g2, g3⟩ := h1
              obtain ⟨td, tz, tb, tr⟩ := ty
              obtain ⟨ed, ez', eb', er⟩ := te
              dsimp only at *
              subst g1; subst g2; subst g3
              have := lenN_ok hl
              obtain ⟨g4, _⟩ := absL_ok (U := fun _ => False) (m := fun _ => none) (n := 0) (w := default) hzl
              exact ⟨td, tz, tb, tr, _, ed, er, z, ht, hd, hte, hz, by rw [← this, g4]; simp, hzl⟩
            · cases h1
          · cases h1
        · cases h1
      · cases h1
    · cases h1
  · cases h1
/-- A literal of a slice. -/
noncomputable def bsX (X : Fx) (d len : Nat) (t : Nat) (parts : List (Nat × Operand)) (s : Slots) (hn : Nat) (hb : Heap) : Option (Bool × Slots × Hp) :=
  match elI X.tab t with
  | some (ez, _, zl) => match Nat.blt 0 ez, Nat.ble (len * ez) 16777216, fillX (fun i => some (i * ez, ez)) s parts (vzero (len * ez) zl) with
    | true, true, some l => match memN d X.hd with
      | true => match lenN (len * ez) l with
        | true => match unDs l with
          | some ds => some (true, (d, .sl ez hn 0 len) :: s, ⟨hn + 1, setH hn (some (.dat ds)) hb⟩)
          | none => some (true, (d, .sl ez hn 0 len) :: s, ⟨hn + 1, setH hn (some (.cells l)) hb⟩)
        | false => none
      | false => match unDs l with
        | some ds => some (true, (d, .d (.lst len ds)) :: s, ⟨hn, hb⟩)
        | none => none
    | _, _, _ => none
  | none => none
theorem bsX_ok {X : Fx} {len : Nat} {parts : Array (Nat × Operand)} {c : Bool} (hX : X.tab = E.tab) (ho : o.op = .buildSlice t len parts) (hd : o.dst = some d) (hk : Nat.blt d k = true) (h1 : bsX X d len t parts.toList s h.n h.b = some (c, s', h')) : Ef E k B true s h o (fun s2 h2 => s2 = s' ∧ h2 = h') := by
  obtain ⟨hn, hb⟩ := h
  unfold bsX at h1
  rw [hX] at h1
  dsimp only at h1
  split at h1
  · rename_i ez eb zl hel
    obtain ⟨td, tz, tb, tr, e, ed, er, z, g1, g2, g3, g4, g5, g6⟩ := elI_ok hel
    split at h1
    · rename_i l hp hbig hl
      have hl := fillX_ok hl
      have hzp : Nat.blt 0 z.cells.size = true := by rw [g5]; exact hp
      split at h1
      · split at h1
        · rename_i hlen
          have hlb : Nat.beq l.length (len * ez) = true := by rw [lenN_ok hlen]; exact Nat.beq_refl _
          split at h1
          · rename_i ds hds
            rw [unDs_eq] at hds
            injection h1 with h1; simp only [Prod.mk.injEq] at h1; obtain ⟨_, rfl, rfl⟩ := h1
            exact Ef.heq (setH_eq _ _ _) (Ef.ac (Ac.sliceDat ho hd hk g1 g2 g3 g4 g6 hzp hbig hl hlb hp hds rfl) ⟨rfl, rfl⟩) ⟨rfl, rfl⟩
          · injection h1 with h1; simp only [Prod.mk.injEq] at h1; obtain ⟨_, rfl, rfl⟩ := h1
            exact Ef.heq (setH_eq _ _ _) (Ef.ac (Ac.slice ho hd hk g1 g2 g3 g4 g6 hzp hbig hl hlb hp rfl) ⟨rfl, rfl⟩) ⟨rfl, rfl⟩
        · cases h1
      · split at h1
        · rename_i ds hds
          rw [unDs_eq] at hds
          injection h1 with h1; simp only [Prod.mk.injEq] at h1; obtain ⟨_, rfl, rfl⟩ := h1
          exact Ef.ac (Ac.sliceD ho hd hk g1 g2 g3 g4 g6 hzp hbig hl hp hds) ⟨rfl, rfl⟩
        · cases h1
    · cases h1
  · cases h1
/-- A store. -/
noncomputable def stX (X : Fx) (t : Nat) (v1 v2 : V) (s : Slots) (hn : Nat) (hb : Heap) : Option (Bool × Slots × Hp) :=
  match lkr X.tab t, csOf v2 with
  | some ty, some l => match lenN ty.size l with
    | true => match v1 with
      | .ptr id off => match lkr hb id with
        | some (some (.cells bc)) => match putN off l bc with
          | some bc' => some (true, s, ⟨hn, setH id (some (.cells bc')) hb⟩)
          | none => none
        | some (some (.dat bc)) => match unDs l with
          | some ds => match putN off ds bc with
            | some bc' => some (true, s, ⟨hn, setH id (some (.dat bc')) hb⟩)
            | none => none
          | none => none
        | _ => none
      | .el e id i j => match lkr hb id with
        | some (some (.rows n e' f)) => match Nat.beq e e', Nat.blt 0 e', unDs l with
          | true, true, some ds => match putN j ds (f i) with
            | some fi => some (Nat.blt i n, s, ⟨hn, setH id (some (.rows n e' (fun q => selL (Nat.beq q i) fi (f q)))) hb⟩)
            | none => none
          | _, _, _ => none
        | _ => none
      | _ => none
    | false => none
  | _, _ => none
theorem stX_ok {X : Fx} {c : Bool} {v1 v2 : V} (hX : X.tab = E.tab) (ho : o.op = .store t x y) (hd : o.dst = none) (hx : evO s x = some v1) (hy : evO s y = some v2) (h1 : stX X t v1 v2 s h.n h.b = some (c, s', h')) (hc : c = true) : Ef E k B false s h o (fun s2 h2 => s2 = s' ∧ h2 = h') := by
  obtain ⟨hn, hb⟩ := h
  unfold stX at h1
  rw [hX, lkr_eq] at h1
  dsimp only at h1
  split at h1
  · rename_i ty l ht hl
    obtain ⟨td, tz, tb, tr⟩ := ty
    obtain ⟨e1, e2⟩ := csOf_ok hl
    subst e1
    split at h1
    · rename_i hz
      have hz' := lenN_ok hz
      have hzb : Nat.beq v2.cs.length tz = true := by rw [hz']; exact Nat.beq_refl _
      split at h1
      · rw [lkr_eq] at h1
        split at h1
        · rename_i bc hbk
          split at h1
          · rename_i bc' hp
            obtain ⟨e3, e4⟩ := putN_ok hp
            injection h1 with h1; simp only [Prod.mk.injEq] at h1; obtain ⟨_, rfl, rfl⟩ := h1
            refine Ef.heq (setH_eq _ _ _) (Ef.ac (Ac.store ho hd ht hx hbk hy e2 hzb (Nat.ble_eq_true_of_le e4)) ⟨rfl, ?_⟩) ⟨rfl, rfl⟩
            rw [e3]
          · cases h1
        · rename_i bc hbk
          split at h1
          · rename_i ds hds
            rw [unDs_eq] at hds
            split at h1
            · rename_i bc' hp
              obtain ⟨e3, e4⟩ := putN_okD hp
              injection h1 with h1; simp only [Prod.mk.injEq] at h1; obtain ⟨_, rfl, rfl⟩ := h1
              have e5 := unD_ok hds
              refine Ef.heq (setH_eq _ _ _) (Ef.ac (Ac.storeD ho hd ht hx hbk hy hds hzb (by rw [e5]; simpa using e4)) ⟨rfl, ?_⟩) ⟨rfl, rfl⟩
              rw [e3]
            · cases h1
          · cases h1
        · cases h1
      · rw [lkr_eq] at h1
        split at h1
        · rename_i n e' f hbk
          split at h1
          · rename_i ds he hp0 hds
            rw [unDs_eq] at hds
            have he := Nat.eq_of_beq_eq_true he
            subst he
            split at h1
            · rename_i fi hp
              injection h1 with h1; simp only [Prod.mk.injEq] at h1; obtain ⟨h1, rfl, rfl⟩ := h1
              subst h1
              have e5 := unD_ok hds
              exact Ef.heq (setH_eq _ _ _) (Ef.ac (Ac.storeE ho hd ht hx hbk hy e5 (by rw [e5] at hz'; simpa using hz') (blt_iff.1 hc) (blt_iff.1 hp0) hp) ⟨rfl, rfl⟩) ⟨rfl, rfl⟩
            · cases h1
          · cases h1
        · cases h1
      · cases h1
    · cases h1
  · cases h1
/-- What is appended: rows, or one element. -/
def srcX (ez : Nat) (v : V) : Option (Nat × (Nat → List D)) :=
  match v with
  | .d (.rows nn e g) => match Nat.beq e ez with
    | true => some (nn, g)
    | false => none
  | .d (.lst 1 cs) => match lenN ez cs with
    | true => some (1, fun _ => cs)
    | false => none
  | _ => none
theorem srcX_ok {x : Operand} {nn : Nat} {g : Nat → List D} (hx : evO s x = some v) (h1 : srcX ez v = some (nn, g)) (he : 0 < ez) : ∀ k B U m a w, SR k B U m s h a w → (∀ i, i < nn → (g i).length = ez) ∧ Src s h x ez nn ((flatN nn g).map .d) := fun k B U m a w r => by
  unfold srcX at h1
  split at h1
  · split at h1
    · rename_i e1
      have e1 := Nat.eq_of_beq_eq_true e1
      subst e1
      injection h1 with h1; simp only [Prod.mk.injEq] at h1; obtain ⟨rfl, rfl⟩ := h1
      exact ⟨rows_len r hx, Src.rows hx he⟩
    · cases h1
  · split at h1
    · rename_i hl
      have hl := lenN_ok hl
      injection h1 with h1; simp only [Prod.mk.injEq] at h1; obtain ⟨rfl, rfl⟩ := h1
      exact ⟨fun _ _ => hl, by have := Src.lst (h := h) (e := ez) hx (by omega) he; simpa [flatN] using this⟩
    · cases h1
  · cases h1
theorem Ef.pre (e : ∀ U m a w, SR k B U m s h a w → Ef E k B g s h o K) : Ef E k B g s h o K := fun U m a w N R r => e U m a w r U m a w N R r
noncomputable def apX (X : Fx) (B d : Nat) (t : Nat) (x : Operand) (v1 v2 : V) (s : Slots) (hn : Nat) (hb : Heap) : Option (Bool × Slots × Hp) :=
  match elI X.tab t with
  | some (ez, eb, _) => match Nat.blt 0 ez, Nat.blt 0 eb with
    | true, true => match v1 with
      | .sl e id off n => match Nat.beq e ez, off, Nat.ble B id, lkr hb id with
        | true, 0, true, some (some (.rows n' e' f)) => match Nat.beq e' ez, srcX ez v2 with
          | true, some (nn, g) => some (decide (n' = n) && decide ((n + nn) * eb ≤ 140737488355328), (d, .sl ez id 0 (n + nn)) :: dropS id s, ⟨hn, setH id (some (.rows (n + nn) ez (appF n f g))) (dropH id hb)⟩)
          | _, _ => none
        | true, 0, true, some (some (.dat bc)) => match v2 with
          | .d (.lst nn cs) => match lenN (n * ez) bc, lenN (nn * ez) cs with
            | true, true => some (decide ((n + nn) * eb ≤ 140737488355328), (d, .sl ez id 0 (n + nn)) :: dropS id s, ⟨hn, setH id (some (.dat (bc ++ cs))) (dropH id hb)⟩)
            | _, _ => none
          | _ => none
        | _, _, _, _ => none
      | .d .nsl => match x with
        | .tmp tt => match X.lit || memN d X.hd with
          | true => match v2 with
            | .d (.lst nn cs) => match lenN (nn * ez) cs, Nat.ble B hn with
              | true, true => some (decide ((0 + nn) * eb ≤ 140737488355328), (d, .sl ez hn 0 (0 + nn)) :: dropS hn ((tt, .sl ez hn 0 0) :: s), ⟨hn + 1, setH hn (some (.dat ([] ++ cs))) (dropH hn ((hn, some (.dat [])) :: hb))⟩)
              | _, _ => none
            | _ => none
          | false => match srcX ez v2, Nat.ble B hn with
            | some (nn, g), true => some (decide ((0 + nn) * eb ≤ 140737488355328), (d, .sl ez hn 0 (0 + nn)) :: dropS hn ((tt, .sl ez hn 0 0) :: s), ⟨hn + 1, setH hn (some (.rows (0 + nn) ez (appF 0 (fun _ => []) g))) (dropH hn ((hn, some (.rows 0 ez (fun _ => []))) :: hb))⟩)
            | _, _ => none
        | _ => none
      | _ => none
    | _, _ => none
  | none => none
theorem evO_put {y : Operand} {tt : Nat} {v1 : V} (hy : evO s y = some v) (hx : lk s tt = some v1) (hne : v ≠ v1) (v' : V) : evO ((tt, v') :: s) y = some v := by
  cases y with
  | tmp t =>
    simp only [evO] at hy ⊢
    rw [lk_cons, if_neg]
    · exact hy
    · rintro rfl
      rw [hy] at hx; injection hx with hx; exact hne hx
  | const c => exact hy
  | func f => exact hy
  | global g => cases hy
theorem apX_ok {X : Fx} {c : Bool} {v1 v2 : V} (hX : X.tab = E.tab) (ho : o.op = .call { callee := .builtin .append, args := #[x, y], argTypes := #[t, t] }) (hd : o.dst = some d) (hk : Nat.blt d k = true) (hx : evO s x = some v1) (hy : evO s y = some v2) (h1 : apX X B d t x v1 v2 s h.n h.b = some (c, s', h')) (hc : c = true) : Ef E k B false s h o (fun s2 h2 => s2 = s' ∧ h2 = h') := by
  obtain ⟨hn, hb⟩ := h
  unfold apX at h1
  rw [hX] at h1
  dsimp only at h1
  split at h1
  · rename_i ez eb zl hel
    obtain ⟨td, tz, tb, tr, e, ed, er, z, g1, g2, g3, g4, g5, g6⟩ := elI_ok hel
    split at h1
    · rename_i hp hpb
      have hp := blt_iff.1 hp
      have hpb := blt_iff.1 hpb
      split at h1
      · rw [lkr_eq] at h1
        split at h1
        · rename_i n' e' f he hBi hbk
          have he := Nat.eq_of_beq_eq_true he
          subst he
          split at h1
          · rename_i nn gg he' hsrc
            have he' := Nat.eq_of_beq_eq_true he'
            subst he'
            injection h1 with h1; simp only [Prod.mk.injEq] at h1; obtain ⟨h1, rfl, rfl⟩ := h1
            subst h1
            obtain ⟨c1, c2⟩ := and_split hc
            have c1 := of_decide_eq_true c1
            have c2 := of_decide_eq_true c2
            subst c1
            refine Ef.pre fun U m a w r => ?_
            obtain ⟨q1, q2⟩ := srcX_ok (h := ⟨hn, hb⟩) hy hsrc hp _ _ U m a w r
            exact Ef.heq (setH_eq _ _ _) (Ef.ac (Ac.appR ho hd hk g1 g2 g3 g4 g5 hx hbk (Nat.le_of_ble_eq_true hBi) q2 (blk_len r hbk) q1 hp c2 hpb) ⟨rfl, rfl⟩) ⟨rfl, rfl⟩
          · cases h1
        · rename_i bc he hBi hbk
          have he := Nat.eq_of_beq_eq_true he
          subst he
          split at h1
          · rename_i nn cs
            split at h1
            · rename_i l1 l2
              injection h1 with h1; simp only [Prod.mk.injEq] at h1; obtain ⟨h1, rfl, rfl⟩ := h1
              subst h1
              have c2 := of_decide_eq_true hc
              exact Ef.heq (setH_eq _ _ _) (Ef.ac (Ac.appendD ho hd hk g1 g2 g3 g4 g5 hx hbk hBi hy (blt_iff.2 hp) (blt_iff.2 hpb) (lenN_ok l1) (lenN_ok l2) c2) ⟨rfl, rfl⟩) ⟨rfl, rfl⟩
            · cases h1
          · cases h1
        · cases h1
      · split at h1
        · rename_i tt
          split at h1
          · split at h1
            · rename_i nn cs
              split at h1
              · rename_i l2 hBn
                injection h1 with h1; simp only [Prod.mk.injEq] at h1; obtain ⟨h1, rfl, rfl⟩ := h1
                subst h1
                have c2 := of_decide_eq_true hc
                refine Ef.virt (e := ez) (tt := tt) hx rfl (Ef.heq (setH_eq _ _ _) (Ef.ac (Ac.appendD ho hd hk g1 g2 g3 g4 g5 (lk_here _ _ _) (lk_here _ _ _) hBn (evO_put hy hx (by intro hh; cases hh) _) (blt_iff.2 hp) (blt_iff.2 hpb) (by simp) (lenN_ok l2) c2) ⟨rfl, rfl⟩) ⟨rfl, rfl⟩)
              · cases h1
            · cases h1
          · split at h1
            · rename_i nn gg hsrc hBn
              injection h1 with h1; simp only [Prod.mk.injEq] at h1; obtain ⟨h1, rfl, rfl⟩ := h1
              subst h1
              have c2 := of_decide_eq_true hc
              have hne : v2 ≠ .d .nsl := by rintro rfl; cases hsrc
              refine Ef.virtR (e := ez) (tt := tt) (f := fun _ => []) hx rfl (Ef.pre fun U m a w r => ?_)
              obtain ⟨q1, q2⟩ := srcX_ok (h := ⟨hn + 1, (hn, some (.rows 0 ez (fun _ => []))) :: hb⟩) (evO_put hy hx hne _) hsrc hp _ _ U m a w r
              exact Ef.heq (setH_eq _ _ _) (Ef.ac (Ac.appR ho hd hk g1 g2 g3 g4 g5 (lk_here _ _ _) (lk_here _ _ _) (Nat.le_of_ble_eq_true hBn) q2 (fun i hi => by omega) q1 hp c2 hpb) ⟨rfl, rfl⟩) ⟨rfl, rfl⟩
            · cases h1
        · cases h1
      · cases h1
    · cases h1
  · cases h1
/-- What an operation that makes or writes comes to. -/
noncomputable def aX (X : Fx) (B k : Nat) (o : Oper) (s : Slots) (h : Hp) : Option (Bool × Slots × Hp) :=
  match o.op with
  | .box _ x => match o.dst, evX s x with
    | some d, some v => match Nat.blt d k, csOf v with
      | true, some l => some (true, (d, .ptr h.n 0) :: s, ⟨h.n + 1, setH h.n (some (.cells l)) h.b⟩)
      | _, _ => none
    | _, _ => none
  | .alloc t => match o.dst, lkr X.tab t with
    | some d, some ty => match Nat.blt d k, ty.zero with
      | true, some z => match absL z.cells.toList with
        | some l => some (true, (d, .ptr h.n 0) :: s, ⟨h.n + 1, setH h.n (some (.cells l)) h.b⟩)
        | none => none
      | _, _ => none
    | _, _ => none
  | .store t x y => match o.dst, evX s x, evX s y with
    | none, some v1, some v2 => stX X t v1 v2 s h.n h.b
    | _, _, _ => none
  | .buildSlice t len parts => match o.dst with
    | some d => match Nat.blt d k with
      | true => bsX X d len t parts.toList s h.n h.b
      | false => none
    | none => none
  | .call { callee := .builtin .append, args := ⟨[x, y]⟩, argTypes := ⟨[t, t']⟩ } => match o.dst, evX s x, evX s y with
    | some d, some v1, some v2 => match Nat.blt d k, Nat.beq t t' with
      | true, true => apX X B d t x v1 v2 s h.n h.b
      | _, _ => none
    | _, _, _ => none
  | _ => none
/-- It leaves what was there as it is. -/
def aG : Op → Bool
  | .store _ _ _ => false
  | .call _ => false
  | _ => true
theorem aX_ok {X : Fx} {c : Bool} (hX : X.tab = E.tab) (h1 : aX X B k o s h = some (c, s', h')) (hc : c = true) : Ef E k B (aG o.op) s h o (fun s2 h2 => s2 = s' ∧ h2 = h') := by
  generalize ho : o.op = p at h1
  unfold aX at h1
  rw [ho] at h1
  obtain ⟨hn, hb⟩ := h
  dsimp only at h1
  split at h1
  · split at h1
    · rename_i hd hx
      split at h1
      · rename_i hk hl
        obtain ⟨e1, e2⟩ := csOf_ok hl
        subst e1
        injection h1 with h1; simp only [Prod.mk.injEq] at h1; obtain ⟨_, rfl, rfl⟩ := h1
        exact Ef.heq (setH_eq _ _ _) (Ef.ac (Ac.box ho hd hk (evX_ok hx) e2 rfl) ⟨rfl, rfl⟩) ⟨rfl, rfl⟩
      · cases h1
    · cases h1
  · split at h1
    · rename_i ty hd ht
      rw [lkr_eq, hX] at ht
      obtain ⟨td, tz, tb, tr⟩ := ty
      split at h1
      · rename_i z hk hz
        dsimp only at hz
        split at h1
        · rename_i l hl
          injection h1 with h1; simp only [Prod.mk.injEq] at h1; obtain ⟨_, rfl, rfl⟩ := h1
          exact Ef.heq (setH_eq _ _ _) (Ef.ac (Ac.alloc ho hd hk ht hz hl rfl) ⟨rfl, rfl⟩) ⟨rfl, rfl⟩
        · cases h1
      · cases h1
    · cases h1
  · split at h1
    · rename_i hd hx hy
      exact stX_ok (h := ⟨hn, hb⟩) hX ho hd (evX_ok hx) (evX_ok hy) h1 hc
    · cases h1
  · split at h1
    · rename_i hd
      split at h1
      · rename_i hk
        exact bsX_ok (h := ⟨hn, hb⟩) hX ho hd hk h1
      · cases h1
    · cases h1
  · split at h1
    · rename_i hd hx hy
      split at h1
      · rename_i hk ht
        have ht := Nat.eq_of_beq_eq_true ht
        subst ht
        exact apX_ok (h := ⟨hn, hb⟩) hX ho hd hk (evX_ok hx) (evX_ok hy) h1 hc
      · cases h1
    · cases h1
  · cases h1
end
end Go.Proofs.Ytmgckodihnmjoaa
