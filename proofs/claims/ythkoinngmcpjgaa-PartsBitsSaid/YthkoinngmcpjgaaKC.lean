/-
  The reckoner: operations and regions. Conditions: none.
-/
import Derived.Test.YthkoinngmcpjgaaKM
/-
  The reckoner: what any operation yields that changes nothing, all kinds. Conditions: none.
-/
set_option linter.unusedVariables false
set_option linter.unusedSimpArgs false
set_option maxRecDepth 20000
namespace Go.Proofs.Ythkoinngmcpjgaa
open Go.RowKit

section
variable {E : Env} {k B : Nat} {s s' : Slots} {h h' : Hp} {Q Q' : Post} {U : Nat → Prop} {m : Nat → Option Nat} {a : Act} {w w' : World} {o : Oper} {v : V} {d n : Nat} {t u e : TypeId} {td ed : TypeDesc} {tz tb ez eb : Nat} {tr er : Option Value} {x y : Operand} {ρ : Bool} {ops : Array Oper} {rest : List Oper}

theorem bool_D {c : V} {b : Bool} (h : c = vb b) : c = .d (.bool b) := h
theorem Yl.pick {c x y : Operand} {b : Bool} {v1 v2 : V} (ho : o.op = .pick c x y) (hc : evO s c = some (vb b)) (hx : evO s x = some v1) (hy : evO s y = some v2) : Yl ρ E k B s h o (selV b v1 v2) := by
  cases hb : b
  · exact Yl.weak (Yl.pickF ho hc hb hy) (selV_f rfl)
  · exact Yl.weak (Yl.pickT ho hc hb hx) (selV_t rfl)
noncomputable def lenX (tab : List (Nat × Ty)) (t : Nat) (v : V) : Option (Bool × V) :=
  match lkr tab t with
  | some ty => match slD ty.d, v with
    | some _, .d (.rows n _ _) => some (true, vi n)
    | some _, .d (.lst n _) => some (true, vi n)
    | some _, .d .nsl => some (true, vi 0)
    | some _, .sl _ _ _ n => some (true, vi n)
    | _, .d (.str b) => match ty.d with
      | .string => some (true, vi b.size)
      | _ => none
    | _, _ => none
  | none => none
theorem lenX_ok {t : TypeId} {x : Operand} {u : V} {c : Bool} {ats : Array TypeId} (ho : o.op = .call { callee := .builtin .len, args := #[x], argTypes := ats }) (ha : ats[0]? = some t) (hx : evO s x = some u) (h1 : lenX E.tab t u = some (c, v)) : Yl ρ E k B s h o v := by
  unfold lenX at h1
  rw [lkr_eq] at h1
  split at h1
  · rename_i ty ht
    obtain ⟨td, tz, tb, tr⟩ := ty
    dsimp only at h1
    split at h1
    · rename_i hd; injection h1 with h1; simp only [Prod.mk.injEq] at h1; obtain ⟨_, rfl⟩ := h1
      exact Yl.lenRows ho ha ht (slD_ok hd) hx
    · rename_i hd; injection h1 with h1; simp only [Prod.mk.injEq] at h1; obtain ⟨_, rfl⟩ := h1
      exact Yl.lenL ho ha ht (slD_ok hd) hx
    · rename_i hd; injection h1 with h1; simp only [Prod.mk.injEq] at h1; obtain ⟨_, rfl⟩ := h1
      exact Yl.lenN ho ha ht (slD_ok hd) hx
    · rename_i hd; injection h1 with h1; simp only [Prod.mk.injEq] at h1; obtain ⟨_, rfl⟩ := h1
      exact Yl.lenS ho ha ht (slD_ok hd) hx
    · split at h1
      · injection h1 with h1; simp only [Prod.mk.injEq] at h1; obtain ⟨_, rfl⟩ := h1
        exact Yl.lenStr ho ha ht rfl hx
      · cases h1
    · cases h1
  · cases h1
def intD : TypeDesc → Option IntKind
  | .int k => some k
  | _ => none
theorem intD_ok {d : TypeDesc} {k : IntKind} (h : intD d = some k) : d = .int k := by cases d <;> simp [intD] at h; subst h; rfl
noncomputable def convX (tab : List (Nat × Ty)) (wr : Bool) (src dst : Nat) (v : V) : Option (Bool × V) :=
  match v, lkr tab dst, lkr tab src with
  | .d (.int q i), some td, some _ => match intD td.d with
    | some q' => match widens q q' with
      | true => some (true, .d (.int q' i))
      | false => match wr with
        | true => some (inRb q' i, .d (.int q' i))
        | false => some (true, .d (.int q' (q'.wrap i)))
    | none => none
  | _, _, _ => none
theorem convX_ok {x : Operand} {u' : V} {c wr : Bool} (ho : o.op = .convert u t x) (hx : evO s x = some u') (h1 : convX E.tab wr u t u' = some (c, v)) (hc : c = true) : Yl ρ E k B s h o v := by
  unfold convX at h1
  simp only [lkr_eq] at h1
  split at h1
  · rename_i ty ty2 ht ht2
    split at h1
    · rename_i q' hd
      have hd := intD_ok hd
      obtain ⟨td, tz, tb, tr⟩ := ty
      obtain ⟨ud, uz, ub, ur⟩ := ty2
      dsimp only at hd
      split at h1
      · rename_i hw
        injection h1 with h1; simp only [Prod.mk.injEq] at h1; obtain ⟨_, rfl⟩ := h1
        exact Yl.convKeep ho ht hd ht2 hx hw
      · split at h1
        · injection h1 with h1; simp only [Prod.mk.injEq] at h1; obtain ⟨h1, rfl⟩ := h1
          subst h1
          exact Yl.convInt ho ht hd ht2 hx (wrap_eq (inRb_iff.1 hc))
        · injection h1 with h1; simp only [Prod.mk.injEq] at h1; obtain ⟨h1, rfl⟩ := h1
          exact Yl.convInt ho ht hd ht2 hx rfl
    · cases h1
  · cases h1
/-- A slice expression's bound. -/
noncomputable def bndX (s : Slots) (dflt : Nat) : Option Operand → Option Int
  | none => some dflt
  | some x => match evX s x with
    | some (.d (.int _ i)) => some i
    | _ => none
theorem bndX_ok {s : Slots} {n : Nat} {x : Option Operand} {i : Int} (h : bndX s n x = some i) : bnd s n x = some i := by
  cases x with
  | none => exact h
  | some x => simp only [bndX, evX_eq] at h; exact h
def bndI (l hh : Int) (n : Nat) : Bool := (leZ 0 l && leZ l hh) && leZ hh n
theorem bndI_ok {l hh : Int} {n : Nat} (h : bndI l hh n = true) : 0 ≤ l ∧ l ≤ hh ∧ hh ≤ n := by
  obtain ⟨h1, h2⟩ := and_split h
  obtain ⟨h0, h1⟩ := and_split h1
  rw [leZ_eq] at h0 h1 h2
  exact ⟨of_decide_eq_true h0, of_decide_eq_true h1, of_decide_eq_true h2⟩
def nonE (l hh : Int) : Bool := decide (l = 0) || ltZ l hh
theorem nonE_ok {l hh : Int} (h : nonE l hh = true) : l = 0 ∨ l < hh := by
  unfold nonE at h; rcases Bool.or_eq_true_iff.1 h with h | h
  · exact .inl (of_decide_eq_true h)
  · rw [ltZ_eq] at h; exact .inr (of_decide_eq_true h)
noncomputable def sliceX (tab : List (Nat × Ty)) (b : Heap) (t : Nat) (lo hi : Option Int) (hiN : Nat → Option Int) (v : V) : Option (Bool × V) :=
  match lo with
  | some l => match v with
    | .d (.rows n e f) => match slI tab t, hiN n with
      | some z, some hh => match Nat.beq z e with
        | true => some (bndI l hh n, .d (.rows (hh.toNat - l.toNat) z (fun i => f (l.toNat + i))))
        | false => none
      | _, _ => none
    | .d (.lst n cs) => match slI tab t, hiN n with
      | some z, some hh => match dropN (l.toNat * z) cs with
        | some r => match takeN ((hh.toNat - l.toNat) * z) r with
          | some ds => some (bndI l hh n, .d (.lst (hh.toNat - l.toNat) ds))
          | none => none
        | none => none
      | _, _ => none
    | .sl ec id off n => match slI tab t, hiN n with
      | some z, some hh => match Nat.beq z ec with
        | true => some (bndI l hh n && nonE l hh, .sl ec id (off + l.toNat * ec) (hh.toNat - l.toNat))
        | false => none
      | _, _ => none
    | .ptr id off => match arrI tab t, lkr b id with
      | some (len, _, z), some (some (.cells cs)) => match hiN len with
        | some hh => match Nat.ble (off + len * z) cs.length, Nat.ble len 4611686018427387904 with
          | true, true => some (bndI l hh len && nonE l hh, .sl z id (off + l.toNat * z) (hh.toNat - l.toNat))
          | _, _ => none
        | none => none
      | _, _ => none
    | _ => none
  | none => none
theorem sliceX_ok {lo hi : Option Operand} {v1 : V} {c : Bool} (ho : o.op = .slice t x lo hi none) (hx : evO s x = some v1) (h1 : sliceX E.tab h.b t (bndX s 0 lo) none (fun n => bndX s n hi) v1 = some (c, v)) (hc : c = true) : Yl ρ E k B s h o v := by
  unfold sliceX at h1
  split at h1
  · rename_i l hlo
    have hlo := bndX_ok hlo
    split at h1
    · split at h1
      · rename_i z hh hz hhi
        obtain ⟨td, tz, tb, tr, e', ed, eb, er, g1, g2, g3⟩ := slI_ok hz
        split at h1
        · rename_i he
          have he := Nat.eq_of_beq_eq_true he
          injection h1 with h1; simp only [Prod.mk.injEq] at h1; obtain ⟨h1, rfl⟩ := h1
          subst h1
          obtain ⟨b0, b1, b2⟩ := bndI_ok hc
          subst he
          exact Yl.sliceR ho hx g1 g2 g3 hlo (bndX_ok hhi) b0 b1 b2
        · cases h1
      · cases h1
    · split at h1
      · rename_i z hh hz hhi
        obtain ⟨td, tz, tb, tr, e', ed, eb, er, g1, g2, g3⟩ := slI_ok hz
        split at h1
        · rename_i r hr
          split at h1
          · rename_i ds hds
            injection h1 with h1; simp only [Prod.mk.injEq] at h1; obtain ⟨h1, rfl⟩ := h1
            subst h1
            obtain ⟨b0, b1, b2⟩ := bndI_ok hc
            obtain ⟨e3, _⟩ := dropN_ok hr
            obtain ⟨e4, _⟩ := takeN_ok hds
            exact Yl.sliceL ho hx g1 g2 g3 hlo (bndX_ok hhi) b0 b1 b2 (by rw [e3]; exact e4)
          · cases h1
        · cases h1
      · cases h1
    · split at h1
      · rename_i z hh hz hhi
        obtain ⟨td, tz, tb, tr, e', ed, eb, er, g1, g2, g3⟩ := slI_ok hz
        split at h1
        · rename_i he
          have he := Nat.eq_of_beq_eq_true he
          injection h1 with h1; simp only [Prod.mk.injEq] at h1; obtain ⟨h1, rfl⟩ := h1
          subst h1
          obtain ⟨hc1, hc2⟩ := and_split hc
          obtain ⟨b0, b1, b2⟩ := bndI_ok hc1
          exact Yl.sliceS ho hx g1 g2 g3 he hlo (bndX_ok hhi) b0 b1 b2 (nonE_ok hc2)
        · cases h1
      · cases h1
    · split at h1
      · rename_i len g z cs hz hb
        rw [lkr_eq] at hb
        obtain ⟨td, tz, tb, tr, e', ed, eb, er, g1, g2, g3, g4⟩ := arrI_ok hz
        split at h1
        · rename_i hh hhi
          split at h1
          · rename_i hin hlen
            injection h1 with h1; simp only [Prod.mk.injEq] at h1; obtain ⟨h1, rfl⟩ := h1
            subst h1
            obtain ⟨hc1, hc2⟩ := and_split hc
            obtain ⟨b0, b1, b2⟩ := bndI_ok hc1
            exact Yl.sliceA ho hx g1 g2 g3 hb hin hlen hlo (bndX_ok hhi) b0 b1 b2 (nonE_ok hc2)
          · cases h1
        · cases h1
      · cases h1
    · cases h1
  · cases h1
/-- A slice as an array's address. -/
noncomputable def arrSX (tab : List (Nat × Ty)) (t : Nat) (v : V) : Option (Bool × V) :=
  match v, arrI tab t with
  | .sl _ id off n, some (len, _, _) => some (Nat.ble len n && Nat.blt 0 len, .ptr id off)
  | _, _ => none
theorem arrSX_ok {v1 : V} {c : Bool} (ho : o.op = .sliceToArrayPointer t x) (hx : evO s x = some v1) (h1 : arrSX E.tab t v1 = some (c, v)) (hc : c = true) : Yl ρ E k B s h o v := by
  unfold arrSX at h1
  split at h1
  · rename_i hz
    obtain ⟨td, tz, tb, tr, e', ed, eb, er, g1, g2, g3, g4⟩ := arrI_ok hz
    injection h1 with h1; simp only [Prod.mk.injEq] at h1; obtain ⟨h1, rfl⟩ := h1
    subst h1; subst g2
    obtain ⟨hc1, hc2⟩ := and_split hc
    exact Yl.arrS ho hx g1 (Nat.le_of_ble_eq_true hc1) (Nat.le_of_ble_eq_true hc2)
  · cases h1
noncomputable def evXs (s : Slots) : List Operand → Option (List V) :=
  List.rec (some []) (fun x _ ih => match evX s x with | some v => (match ih with | some l => some (v :: l) | none => none) | none => none)
theorem evXs_eq (s : Slots) (xs : List Operand) : evXs s xs = evL s xs := by
  induction xs with
  | nil => rfl
  | cons x r ih =>
    show (match evX s x with | some v => (match evXs s r with | some l => some (v :: l) | none => none) | none => none) = _
    rw [ih, evX_eq]
    simp only [evL]
    cases evO s x <;> cases evL s r <;> rfl
/-- The parts of a literal. -/
noncomputable def fillX (place : Nat → Option (Nat × Nat)) (s : Slots) : List (Nat × Operand) → List V → Option (List V)
  | [], l => some l
  | (i, x) :: rest, l => match place i, evX s x with
    | some p, some v => match csOf v with
      | some cs => match lenN p.2 cs, putN p.1 cs l with
        | true, some l' => fillX place s rest l'
        | _, _ => none
      | none => none
    | _, _ => none
theorem fillX_ok {place : Nat → Option (Nat × Nat)} : ∀ {parts : List (Nat × Operand)} {l l' : List V}, fillX place s parts l = some l' → vfill place s l parts = some l'
  | [], l, l', h => h
  | (i, x) :: rest, l, l', h => by
    simp only [fillX, evX_eq] at h
    simp only [vfill]
    split at h
    · rename_i p v hp hv
      rw [hp, hv]
      dsimp only
      split at h
      · rename_i cs hcs
        obtain ⟨e1, e2⟩ := csOf_ok hcs
        split at h
        · rename_i l2 hl hput
          have e3 := lenN_ok hl
          obtain ⟨e4, e5⟩ := putN_ok hput
          subst e1
          have c1 : Nat.beq v.cs.length p.2 = true := by rw [e3]; exact Nat.beq_refl _
          have c2 : Nat.ble (p.1 + p.2) l.length = true := Nat.ble_eq_true_of_le (by omega)
          rw [c1, c2, e2, e4]
          exact fillX_ok h
        · cases h
      · cases h
    · cases h
noncomputable def buildX (tab : List (Nat × Ty)) (s : Slots) (t : Nat) (parts : List (Nat × Operand)) : Option (Bool × V) :=
  match lkr tab t with
  | some ty => match ty.zero with
    | some z => match absL z.cells.toList with
      | some zl => match ty.d with
        | .struct fs => match places tab fs.toList with
          | some pl => match fillX (fun i => pl[i]?) s parts zl with
            | some l => some (true, .agg l)
            | none => none
          | none => none
        | .array _ e => match lkr tab e with
          | some te => match fillX (fun i => some (i * te.size, te.size)) s parts zl with
            | some l => some (true, .agg l)
            | none => none
          | none => none
        | _ => none
      | none => none
    | none => none
  | none => none
theorem buildX_ok {parts : Array (Nat × Operand)} {c : Bool} (ho : o.op = .build t parts) (h1 : buildX E.tab s t parts.toList = some (c, v)) : Yl ρ E k B s h o v := by
  unfold buildX at h1
  rw [lkr_eq] at h1
  split at h1
  · rename_i ty ht
    obtain ⟨td, tz, tb, tr⟩ := ty
    dsimp only at h1
    split at h1
    · rename_i z
      split at h1
      · rename_i zl hzl
        split at h1
        · rename_i fs
          split at h1
          · rename_i pl hpl
            split at h1
            · rename_i l hl
              injection h1 with h1; simp only [Prod.mk.injEq] at h1; obtain ⟨_, rfl⟩ := h1
              exact Yl.buildS ho ht rfl rfl hzl hpl (fillX_ok hl)
            · cases h1
          · cases h1
        · rw [lkr_eq] at h1
          split at h1
          · rename_i te hte
            obtain ⟨ed, ez, eb, er⟩ := te
            split at h1
            · rename_i l hl
              injection h1 with h1; simp only [Prod.mk.injEq] at h1; obtain ⟨_, rfl⟩ := h1
              exact Yl.buildA ho ht rfl hte rfl hzl (fillX_ok hl)
            · cases h1
          · cases h1
        · cases h1
      · cases h1
    · cases h1
  · cases h1
def unX (op : UnOp) (v : V) : Option (Bool × V) :=
  match op, v with
  | .not, .d (.bool b) => some (true, vb (!b))
  | .neg, .d (.int k i) => some (inRb k (0 - i), .d (.int k (0 - i)))
  | _, _ => none
theorem unX_ok {op : UnOp} {v1 : V} {c : Bool} (ho : o.op = .unOp op t x) (hx : evO s x = some v1) (h1 : unX op v1 = some (c, v)) (hc : c = true) : Yl ρ E k B s h o v := by
  unfold unX at h1
  split at h1
  · injection h1 with h1; simp only [Prod.mk.injEq] at h1; obtain ⟨_, rfl⟩ := h1
    exact Yl.not ho hx
  · injection h1 with h1; simp only [Prod.mk.injEq] at h1; obtain ⟨h1, rfl⟩ := h1
    subst h1
    exact Yl.neg ho hx (wrap_eq (inRb_iff.1 hc))
  · cases h1
noncomputable def mmX (mx : Bool) (v1 v2 : V) : Option (Bool × V) :=
  match v1, v2 with
  | .d (.int k i), .d (.int k' j) => match sameK k k' with
    | true => some (true, .d (.int k (match mx with | true => max i j | false => min i j)))
    | false => none
  | _, _ => none
theorem mmX_max {v1 v2 : V} {c : Bool} {ats : Array TypeId} (ho : o.op = .call { callee := .builtin .max, args := #[x, y], argTypes := ats }) (hx : evO s x = some v1) (hy : evO s y = some v2) (h1 : mmX true v1 v2 = some (c, v)) : Yl ρ E k B s h o v := by
  unfold mmX at h1
  split at h1
  · split at h1
    · rename_i hk
      have := sameK_eq hk
      subst this
      injection h1 with h1; simp only [Prod.mk.injEq] at h1; obtain ⟨_, rfl⟩ := h1
      exact Yl.max2 ho hx hy (by split <;> omega)
    · cases h1
  · cases h1
theorem mmX_min {v1 v2 : V} {c : Bool} {ats : Array TypeId} (ho : o.op = .call { callee := .builtin .min, args := #[x, y], argTypes := ats }) (hx : evO s x = some v1) (hy : evO s y = some v2) (h1 : mmX false v1 v2 = some (c, v)) : Yl ρ E k B s h o v := by
  unfold mmX at h1
  split at h1
  · split at h1
    · rename_i hk
      have := sameK_eq hk
      subst this
      injection h1 with h1; simp only [Prod.mk.injEq] at h1; obtain ⟨_, rfl⟩ := h1
      exact Yl.min2 ho hx hy (by split <;> omega)
    · cases h1
  · cases h1
/-- What the reckoner is told of the program, and of the function at hand: the types that may be compared; whose numbers wrap round; which rows stay at hand; whether rows are told cell by cell. -/
structure Fx where
  tab : List (Nat × Ty)
  eqs : List (Nat × List Kd)
  wr : List Nat
  hd : List Nat
  lit : Bool
noncomputable def memN (i : Nat) (l : List Nat) : Bool := List.rec false (fun x _ ih => cond (Nat.beq x i) true ih) l
/-- A map's type: its keys' kind, whether its values have several cells, the zero value. -/
def mapTD : TypeDesc → Option (Nat × Nat)
  | .map k e => some (k, e)
  | _ => none
theorem mapTD_ok {d : TypeDesc} {k e : Nat} (h : mapTD d = some (k, e)) : d = .map k e := by cases d <;> simp [mapTD] at h; obtain ⟨rfl, rfl⟩ := h; rfl
def intTD : TypeDesc → Option IntKind
  | .int q => some q
  | _ => none
theorem intTD_ok {d : TypeDesc} {q : IntKind} (h : intTD d = some q) : d = .int q := by cases d <;> simp [intTD] at h; subst h; rfl
noncomputable def mapI (tab : List (Nat × Ty)) (t : Nat) : Option (IntKind × Bool × V) :=
  match lkr tab t with
  | some ty => match mapTD ty.d with
    | some (k, e) => match lkr tab k, lkr tab e with
      | some tk, some te => match intTD tk.d, te.zero with
        | some q, some z => match absV z with
          | some v0 => some (q, aggD te.d, v0)
          | none => none
        | _, _ => none
      | _, _ => none
    | none => none
  | none => none
theorem mapI_ok {t : Nat} {q : IntKind} {g : Bool} {v0 : V} (h1 : mapI E.tab t = some (q, g, v0)) : ∃ td tz tb tr kt et kz kb kr ed ez eb er z, lk E.tab t = some ⟨td, tz, tb, tr⟩ ∧ td = .map kt et ∧ lk E.tab kt = some ⟨.int q, kz, kb, kr⟩ ∧ lk E.tab et = some ⟨ed, ez, eb, er⟩ ∧ er = some z ∧ absV z = some v0 := by
  unfold mapI at h1
  rw [lkr_eq] at h1
  split at h1
  · rename_i ty ht
    split at h1
    · rename_i k e hd
      have hd := mapTD_ok hd
      rw [lkr_eq, lkr_eq] at h1
      split at h1
      · rename_i tk te hk he
        split at h1
        · rename_i q' z hq hz
          have hq := intTD_ok hq
          split at h1
          · rename_i v0' hv
            injection h1 with h1; simp only [Prod.mk.injEq] at h1; obtain ⟨rfl, _, rfl⟩ := h1
            obtain ⟨td, tz, tb, tr⟩ := ty
            obtain ⟨kd, kz, kb, kr⟩ := tk
            obtain ⟨ed, ez, eb, er⟩ := te
            dsimp only at *
            subst hq
            exact ⟨td, tz, tb, tr, k, e, kz, kb, kr, ed, ez, eb, er, z, ht, hd, hk, he, hz, hv⟩
          · cases h1
        · cases h1
      · cases h1
    · cases h1
  · cases h1
noncomputable def lookX (tab : List (Nat × Ty)) (b : Heap) (t : Nat) (v1 v2 : V) (ok : Bool) : Option (Bool × V) :=
  match mapI tab t with
  | some (q, _, v0) => match v1, v2 with
    | .map id, .d (.int q' i) => match sameK q q', lkr b id with
      | true, some (some (.fm q2 g _ has val)) => match sameK q q2 with
        | true => some (true, cond ok (.tup [selV (has i) (mkD g (val i)) v0, vb (has i)]) (selV (has i) (mkD g (val i)) v0))
        | false => none
      | _, _ => none
    | .d .nmap, .d (.int q' _) => match sameK q q' with
      | true => some (true, cond ok (.tup [v0, vb false]) v0)
      | false => none
    | _, _ => none
  | none => none
theorem lookX_ok {t : TypeId} {x y : Operand} {v1 v2 : V} {ok c : Bool} (ho : o.op = .lookup t x y ok) (hx : evO s x = some v1) (hy : evO s y = some v2) (h1 : lookX E.tab h.b t v1 v2 ok = some (c, v)) : Yl true E k B s h o v := by
  unfold lookX at h1
  split at h1
  · rename_i q g v0 hm
    obtain ⟨td, tz, tb, tr, kt, et, kz, kb, kr, ed, ez, eb, er, z, g1, g2, g3, g4, g5, g6⟩ := mapI_ok hm
    split at h1
    · rw [lkr_eq] at h1
      split at h1
      · rename_i hq hb
        have := sameK_eq hq
        subst this
        split at h1
        · rename_i hq2
          have := sameK_eq hq2
          subst this
          injection h1 with h1; simp only [Prod.mk.injEq] at h1; obtain ⟨_, rfl⟩ := h1
          exact Yl.lookup ho g1 g2 g3 g4 g5 g6 hx hb hy
        · cases h1
      · cases h1
    · split at h1
      · rename_i hq
        have := sameK_eq hq
        subst this
        injection h1 with h1; simp only [Prod.mk.injEq] at h1; obtain ⟨_, rfl⟩ := h1
        exact Yl.lookupN ho g1 g2 g3 g4 g5 g6 hx hy
      · cases h1
    · cases h1
  · cases h1
/-- What an operation yields, and under which condition. -/
noncomputable def yX (X : Fx) (d : Nat) (s : Slots) (b : Heap) (op : Op) : Option (Bool × V) :=
  match op with
  | .move x => match evX s x with | some v => some (true, v) | none => none
  | .assign x => match evX s x with | some v => some (true, v) | none => none
  | .pick c x y => match evX s c with
    | some (.d (.bool c)) => match evX s x, evX s y with
      | some v1, some v2 => some (true, selV c v1 v2)
      | _, _ => none
    | _ => none
  | .load t x => match evX s x with | some v => loadX X.tab b t v | none => none
  | .fieldAddr t x i => match evX s x with | some v => fieldAddrX X.tab t i v | none => none
  | .field t x i => match evX s x with | some v => fieldX X.tab t i v | none => none
  | .index t x y => match evX s x, evX s y with | some v1, some v2 => indexX X.tab t v1 v2 | _, _ => none
  | .indexAddr t x y => match evX s x, evX s y with | some v1, some v2 => indexAddrX X.tab b t v1 v2 | _, _ => none
  | .binOp op t x y _ => match evX s x, evX s y with | some v1, some v2 => binX X.tab X.eqs (memN d X.wr) op t v1 v2 | _, _ => none
  | .unOp op _ x => match evX s x with | some v => unX op v | none => none
  | .extract x i => match evX s x with
    | some (.tup vs) => match getN vs i with | some v => some (true, v) | none => none
    | _ => none
  | .convert src dst x => match evX s x with | some v => convX X.tab (memN d X.wr) src dst v | none => none
  | .build t parts => buildX X.tab s t parts.toList
  | .slice t x lo hi mx => match mx, evX s x with
    | none, some v => sliceX X.tab b t (bndX s 0 lo) none (fun n => bndX s n hi) v
    | _, _ => none
  | .sliceToArrayPointer t x => match evX s x with | some v => arrSX X.tab t v | none => none
  | .makeFunc f xs ys => match f with
    | .func f => match evXs s xs.toList, evXs s ys.toList with
      | some l1, some l2 => some (true, .fn f l1 l2)
      | _, _ => none
    | _ => none
  | .nilCheck x => match evX s x with
    | some v => match ptrLike v with
      | true => some (true, v)
      | false => none
    | none => none
  | .lookup t x y ok => match evX s x, evX s y with | some v1, some v2 => lookX X.tab b t v1 v2 ok | _, _ => none
  | .call { callee := .builtin .len, args := ⟨[x]⟩, argTypes := ⟨t :: _⟩ } => match evX s x with | some v => lenX X.tab t v | none => none
  | .call { callee := .builtin .max, args := ⟨[x, y]⟩, argTypes := _ } => match evX s x, evX s y with | some v1, some v2 => mmX true v1 v2 | _, _ => none
  | .call { callee := .builtin .min, args := ⟨[x, y]⟩, argTypes := _ } => match evX s x, evX s y with | some v1, some v2 => mmX false v1 v2 | _, _ => none
  | _ => none
/-- An operation that reads what lies in blocks. -/
def rdO : Op → Bool
  | .load _ _ => true
  | .lookup _ _ _ _ => true
  | _ => false
theorem Yl.any {ρ : Bool} (y : Yl false E k B s h o v) : Yl ρ E k B s h o v := fun U m a w r => by
  obtain ⟨x, h1, h2⟩ := y U m a w r
  exact ⟨x, h1, fun w' _ => h2 w' (fun e => by cases e)⟩
theorem Yl.mono {ρ : Bool} (y : Yl ρ E k B s h o v) : Yl true E k B s h o v := fun U m a w r => by
  obtain ⟨x, h1, h2⟩ := y U m a w r
  exact ⟨x, h1, fun w' hw => h2 w' (fun _ => hw rfl)⟩
theorem yX_ok {X : Fx} {c : Bool} (hX : X.tab = E.tab) (he : EqT E X.eqs) (h1 : yX X d s h.b o.op = some (c, v)) (hc : c = true) : Yl (rdO o.op) E k B s h o v := by
  obtain ⟨tab, eqs, wr, hd, lit⟩ := X
  dsimp only at hX he
  subst hX
  generalize ho : o.op = p at h1 ⊢
  unfold yX at h1
  dsimp only at h1
  split at h1
  · split at h1
    · rename_i hx; injection h1 with h1; simp only [Prod.mk.injEq] at h1; obtain ⟨_, rfl⟩ := h1
      exact Yl.move ho (evX_ok hx)
    · cases h1
  · split at h1
    · rename_i hx; injection h1 with h1; simp only [Prod.mk.injEq] at h1; obtain ⟨_, rfl⟩ := h1
      exact Yl.assign ho (evX_ok hx)
    · cases h1
  · split at h1
    · rename_i hc
      split at h1
      · rename_i hx hy; injection h1 with h1; simp only [Prod.mk.injEq] at h1; obtain ⟨_, rfl⟩ := h1
        exact Yl.pick ho (evX_ok hc) (evX_ok hx) (evX_ok hy)
      · cases h1
    · cases h1
  · split at h1
    · rename_i hx; exact loadX_ok ho (evX_ok hx) h1 hc
    · cases h1
  · split at h1
    · rename_i hx; exact fieldAddrX_ok ho (evX_ok hx) h1
    · cases h1
  · split at h1
    · rename_i hx; exact fieldX_ok ho (evX_ok hx) h1
    · cases h1
  · split at h1
    · rename_i hx hy; exact indexX_ok ho (evX_ok hx) (evX_ok hy) h1 hc
    · cases h1
  · split at h1
    · rename_i hx hy; exact indexAddrX_ok ho (evX_ok hx) (evX_ok hy) h1 hc
    · cases h1
  · split at h1
    · rename_i hx hy; exact binX_ok he ho (evX_ok hx) (evX_ok hy) h1 hc
    · cases h1
  · split at h1
    · rename_i hx; exact unX_ok ho (evX_ok hx) h1 hc
    · cases h1
  · split at h1
    · rename_i hx
      split at h1
      · rename_i hg; injection h1 with h1; simp only [Prod.mk.injEq] at h1; obtain ⟨_, rfl⟩ := h1
        rw [getN_eq] at hg
        exact Yl.extract ho (evX_ok hx) hg
      · cases h1
    · cases h1
  · split at h1
    · rename_i hx; exact convX_ok ho (evX_ok hx) h1 hc
    · cases h1
  · exact buildX_ok ho h1
  · split at h1
    · rename_i hx; exact sliceX_ok ho (evX_ok hx) h1 hc
    · cases h1
  · split at h1
    · rename_i hx; exact arrSX_ok ho (evX_ok hx) h1 hc
    · cases h1
  · split at h1
    · split at h1
      · rename_i h2 h3; injection h1 with h1; simp only [Prod.mk.injEq] at h1; obtain ⟨_, rfl⟩ := h1
        rw [evXs_eq] at h2 h3
        exact Yl.makeFunc ho h2 h3
      · cases h1
    · cases h1
  · split at h1
    · rename_i hx
      split at h1
      · rename_i hp; injection h1 with h1; simp only [Prod.mk.injEq] at h1; obtain ⟨_, rfl⟩ := h1
        exact Yl.nilCheck ho (evX_ok hx) hp
      · cases h1
    · cases h1
  · split at h1
    · rename_i hx hy; exact lookX_ok ho (evX_ok hx) (evX_ok hy) h1
    · cases h1
  · split at h1
    · rename_i hx; exact lenX_ok ho (by simp) (evX_ok hx) h1
    · cases h1
  · split at h1
    · rename_i hx hy; exact mmX_max ho (evX_ok hx) (evX_ok hy) h1
    · cases h1
  · split at h1
    · rename_i hx hy; exact mmX_min ho (evX_ok hx) (evX_ok hy) h1
    · cases h1
  · cases h1
end
end Go.Proofs.Ythkoinngmcpjgaa

/-
  The reckoner: operations that make and write. Conditions: none.
-/
namespace Go.Proofs.Ythkoinngmcpjgaa
open Go.RowKit

section
variable {E : Env} {k B : Nat} {s s' : Slots} {h h' : Hp} {Q Q' : Post} {U : Nat → Prop} {m : Nat → Option Nat} {a : Act} {w w' : World} {o : Oper} {v : V} {d n : Nat} {t u e : TypeId} {td ed : TypeDesc} {tz tb ez eb : Nat} {tr er : Option Value} {x y : Operand} {ρ g : Bool} {ops : Array Oper} {rest : List Oper} {K K' : Slots → Hp → Prop}

/-- An operation goes on to a state of which K holds. -/
def Ef (E : Env) (k B : Nat) (g : Bool) (s : Slots) (h : Hp) (o : Oper) (K : Slots → Hp → Prop) : Prop :=
  ∀ U m a w (N : Act → World → Prop) (R : Exit → Act → World → Prop), SR k B U m s h a w →
    (∀ a' w' U' m' s' h', K s' h' → SR k B U' m' s' h' a' w' → Stp B U m h.n h.b w U' m' h'.n h'.b w' → (g = true → Same0 w w') → N a' w') → o.wp E.P a w N R
theorem Ef.mono (e : Ef E k B g s h o K) (hK : ∀ s h, K s h → K' s h) : Ef E k B g s h o K' := fun U m a w N R r hN =>
  e U m a w N R r fun a' w' U' m' s' h' q => hN a' w' U' m' s' h' (hK _ _ q)
theorem Ef.drop {g' : Bool} (e : Ef E k B g s h o K) (hg : g' = true → g = true) : Ef E k B g' s h o K := fun U m a w N R r hN =>
  e U m a w N R r fun a' w' U' m' s' h' q r1 st hs => hN a' w' U' m' s' h' q r1 st fun e => hs (hg e)
theorem Ef.yl (y : Yl true E k B s h o v) (hd : o.dst = some d) (hk : Nat.blt d k = true) (q : K ((d, v) :: s) h) : Ef E k B true s h o K := fun U m a w N R r hN => by
  obtain ⟨x, h1, h2⟩ := y U m a w r
  unfold Oper.wp
  rw [h2 w (fun _ => .refl w), Oper.upon_value, hd]
  exact hN _ _ _ _ _ _ q (r.put hk h1) (.refl ..) (fun _ => .refl w)
theorem Ef.ac (y : Ac E k B g s h o s' h') (q : K s' h') : Ef E k B g s h o K := fun U m a w N R r hN => by
  obtain ⟨nx, a', w', U', m', h1, h2, h3, h4, h5⟩ := y U m a w r
  unfold Oper.wp
  rw [h1]
  exact h2.upon _ _ (hN _ _ _ _ _ _ q h3 h4 h5)
theorem Ef.fn {f : FuncId} {xs : Array Operand} {ats : Array TypeId} {args vs : List V} {rv : V} (ho : o.op = .call { callee := .value (.func f), args := xs, argTypes := ats })
    (c : Fn E f args rv) (he : Enters E f) (hv : evL s xs.toList = some vs) (ha : AL vs args) (hk : dstOk o.dst k = true) (q : K (putR o.dst rv s) h) : Ef E k B true s h o K := fun U m a w N R r hN => by
  obtain ⟨as, h1, h2⟩ := call_run r ho he hv ha
  unfold Oper.wp
  rw [h1, Oper.upon_enter]
  refine (c.calls r.heap h2).mono fun e w' ⟨R0, U', e1, hvr, st, hH, hs⟩ => ?_
  subst e1
  exact hN _ _ _ _ _ _ q ((r.stp st hH).putR hk hvr) (st.low r.base) (fun _ => hs)
theorem Ef.fnB {f : FuncId} {xs : Array Operand} {ats : Array TypeId} {args vs : List V} {rv : V} (ho : o.op = .call { callee := .value (.func f), args := xs, argTypes := ats })
    (c : Fn E f args rv) (he : Enters E f) (hv : evL s xs.toList = some vs) (ha : BL h vs args) (hfl : rv.flat = true) (hk : dstOk o.dst k = true) (q : K (putR o.dst rv s) h) : Ef E k B true s h o K := fun U m a w N R r hN => by
  obtain ⟨as, h1, h2⟩ := callB_run r ho he hv
  unfold Oper.wp
  rw [h1, Oper.upon_enter]
  refine (c.callsB hfl r.heap h2 ha).mono fun e w' ⟨R0, e1, hvr, st, hH, hs⟩ => ?_
  subst e1
  exact hN _ _ _ _ _ _ q ((r.stp st hH).putR hk hvr) (st.low r.base) (fun _ => hs)
theorem Ef.call {f : FuncId} {xs : Array Operand} {ats : Array TypeId} {args vs : List V} {R : V → Hp → Prop} (ho : o.op = .call { callee := .value (.func f), args := xs, argTypes := ats })
    (c : Call E f args h R) (he : Enters E f) (hv : evL s xs.toList = some vs) (ha : AL vs args) (hk : dstOk o.dst k = true) (q : ∀ r h', R r h' → K (putR o.dst r s) h') : Ef E k B false s h o K := fun U m a w N R r hN => by
  obtain ⟨as, h1, h2⟩ := call_run r ho he hv ha
  unfold Oper.wp
  rw [h1, Oper.upon_enter]
  refine (c U m w as r.heap h2).mono fun e w' ⟨rv, R0, U', m', h', e1, hq, hvr, hH, st⟩ => ?_
  subst e1
  exact hN _ _ _ _ _ _ (q rv h' hq) ((r.stp st hH).putR hk hvr) (st.low r.base) (fun e => by cases e)
/-- A call of a function value. -/
theorem Ef.dyn {f : FuncId} {tt : Nat} {xs : Array Operand} {ats : Array TypeId} {args vs : List V} {R : V → Hp → Prop} (ho : o.op = .call { callee := .value (.tmp tt), args := xs, argTypes := ats }) (hf : lk s tt = some (.d (.fn f)))
    (c : Call E f args h R) (he : Enters E f) (hv : evL s xs.toList = some vs) (ha : AL vs args) (hk : dstOk o.dst k = true) (q : ∀ r h', R r h' → K (putR o.dst r s) h') : Ef E k B false s h o K := fun U m a w N R r hN => by
  obtain ⟨as, h1, h2⟩ := dyn_run0 r ho he hf hv ha
  unfold Oper.wp
  rw [h1, Oper.upon_enter]
  refine (c U m w as r.heap h2).mono fun e w' ⟨rv, R0, U', m', h', e1, hq, hvr, hH, st⟩ => ?_
  subst e1
  exact hN _ _ _ _ _ _ (q rv h' hq) ((r.stp st hH).putR hk hvr) (st.low r.base) (fun e => by cases e)
theorem Ef.dynC {f : FuncId} {tt : Nat} {xs : Array Operand} {ats : Array TypeId} {args vs fi ca : List V} {R : V → Hp → Prop} (ho : o.op = .call { callee := .value (.tmp tt), args := xs, argTypes := ats }) (hf : lk s tt = some (.fn f fi ca))
    (c : Call E f args h R) (he : Enters E f) (hv : evL s xs.toList = some vs) (ha : AL (fi ++ vs ++ ca) args) (hk : dstOk o.dst k = true) (q : ∀ r h', R r h' → K (putR o.dst r s) h') : Ef E k B false s h o K := fun U m a w N R r hN => by
  obtain ⟨as, h1, h2⟩ := dyn_run r ho he hf hv ha
  unfold Oper.wp
  rw [h1, Oper.upon_enter]
  refine (c U m w as r.heap h2).mono fun e w' ⟨rv, R0, U', m', h', e1, hq, hvr, hH, st⟩ => ?_
  subst e1
  exact hN _ _ _ _ _ _ (q rv h' hq) ((r.stp st hH).putR hk hvr) (st.low r.base) (fun e => by cases e)
/-- A function value that is called may be a pure one. -/
theorem Ef.dynF {f : FuncId} {tt : Nat} {xs : Array Operand} {ats : Array TypeId} {args vs : List V} {rv : V} (ho : o.op = .call { callee := .value (.tmp tt), args := xs, argTypes := ats }) (hf : lk s tt = some (.d (.fn f)))
    (c : Fn E f args rv) (he : Enters E f) (hv : evL s xs.toList = some vs) (ha : AL vs args) (hk : dstOk o.dst k = true) (q : K (putR o.dst rv s) h) : Ef E k B true s h o K := fun U m a w N R r hN => by
  obtain ⟨as, h1, h2⟩ := dyn_run0 r ho he hf hv ha
  unfold Oper.wp
  rw [h1, Oper.upon_enter]
  refine (c.calls r.heap h2).mono fun e w' ⟨R0, U', e1, hvr, st, hH, hs⟩ => ?_
  subst e1
  exact hN _ _ _ _ _ _ q ((r.stp st hH).putR hk hvr) (st.low r.base) (fun _ => hs)
theorem Ef.dynFC {f : FuncId} {tt : Nat} {xs : Array Operand} {ats : Array TypeId} {args vs fi ca : List V} {rv : V} (ho : o.op = .call { callee := .value (.tmp tt), args := xs, argTypes := ats }) (hf : lk s tt = some (.fn f fi ca))
    (c : Fn E f args rv) (he : Enters E f) (hv : evL s xs.toList = some vs) (ha : AL (fi ++ vs ++ ca) args) (hk : dstOk o.dst k = true) (q : K (putR o.dst rv s) h) : Ef E k B true s h o K := fun U m a w N R r hN => by
  obtain ⟨as, h1, h2⟩ := dyn_run r ho he hf hv ha
  unfold Oper.wp
  rw [h1, Oper.upon_enter]
  refine (c.calls r.heap h2).mono fun e w' ⟨R0, U', e1, hvr, st, hH, hs⟩ => ?_
  subst e1
  exact hN _ _ _ _ _ _ q ((r.stp st hH).putR hk hvr) (st.low r.base) (fun _ => hs)
theorem TO.ef (hg : o.guard = none) (e : Ef E k B g s h o (fun s' h' => TO E k B ops rest s' h' Q)) : TO E k B ops (o :: rest) s h Q := fun U m a w r => by
  refine wpList_plain hg fun K hK => ?_
  exact e U m a w _ _ r fun a' w' U' m' s' h' q r1 st _ => hK _ _ (RP.step' st (q U' m' a' w' r1))
theorem TA.ef {listed : Array Bool} {gg : Nat → Bool} {n : Nat} (i : Nat) (hi : ops[i]? = some o) (e : Ef E k B (gg i) s h o (fun s' h' => TA E k B ops gg n (listed.setIfInBounds i true) s' h' Q)) (hw : Wants s ops o true) (hr : Region.ready .any ops listed = [i]) : TA E k B ops gg (n + 1) listed s h Q := fun U m a w r => by
  refine ⟨(fun e => by rw [hr] at e; cases e), fun j hj => ?_⟩
  rw [hr] at hj
  simp only [List.mem_singleton] at hj
  subst hj
  unfold wpOp
  simp only [hi, r.wants hw, if_true]
  exact .inl (e U m a w _ _ r fun a' w' U' m' s' h' q r1 st hs => ⟨hs, wpAnyK_mono (fun e a2 w2 q => RP_trans st q) _ _ _ _ (q U' m' a' w' r1)⟩)

/-- The same blocks. -/
def HEq (b b' : Heap) : Prop := ∀ i, lk b i = lk b' i
theorem HEq.own {b b' : Heap} (e : HEq b b') {m : Nat → Option Nat} {x : Nat} : Own m b x ↔ Own m b' x := by
  unfold Own; simp only [e _]
theorem HR.heq {b b' : Heap} (e : HEq b b') (r : HR U m n b w) : HR U m n b' w :=
  ⟨fun i k h => r.live i k (by rw [e]; exact h), fun i k x h => r.ok i k x (by rw [e]; exact h), fun i i' k k' x h1 h2 => r.inj i i' k k' x (by rw [e]; exact h1) (by rw [e]; exact h2), r.ulow⟩
theorem SR.heq {b b' : Heap} (e : HEq b b') (r : SR k B U m s ⟨n, b⟩ a w) : SR k B U m s ⟨n, b'⟩ a w :=
  ⟨r.slots, r.size, r.defers, r.heap.heq e, r.base⟩
theorem Stp.heq {b0 b b' : Heap} {n0 : Nat} {U' : Nat → Prop} {m' : Nat → Option Nat} (e : HEq b b') (st : Stp B U m n0 b0 w U' m' n b w') : Stp B U m n0 b0 w U' m' n b' w' :=
  { st with own := fun x hx h => st.own x hx (e.own.2 h) }
theorem Ef.heq {b b' : Heap} (e : HEq b b') (q : Ef E k B g s h o (fun s2 h2 => s2 = s' ∧ h2 = ⟨n, b⟩)) (r : K s' ⟨n, b'⟩) : Ef E k B g s h o K := fun U m a w N R r0 hN =>
  q U m a w N R r0 fun a' w' U' m' s2 h2 ⟨e1, e2⟩ r1 st hs => by
    subst e1; subst e2
    exact hN a' w' U' m' s2 ⟨n, b'⟩ r (r1.heq e) (st.heq e) hs
/-- A block's entry, in its place. -/
noncomputable def setH (id : Nat) (x : Option Blk) (b : Heap) : Heap :=
  List.rec [(id, x)] (fun p r ih => cond (Nat.beq p.1 id) ((id, x) :: r) (p :: ih)) b
theorem setH_eq (id : Nat) (x : Option Blk) (b : Heap) : HEq ((id, x) :: b) (setH id x b) := fun i => by
  induction b with
  | nil => rfl
  | cons p r ih =>
    obtain ⟨j, y⟩ := p
    show _ = lk (cond (Nat.beq j id) ((id, x) :: r) ((j, y) :: setH id x r)) i
    by_cases hj : j = id
    · subst hj
      rw [Nat.beq_refl, cond_true, lk_cons, lk_cons, lk_cons]
      split <;> rfl
    · have e : Nat.beq j id = false := by
        cases e : Nat.beq j id
        · rfl
        · exact absurd (Nat.eq_of_beq_eq_true e) hj
      rw [e, cond_false, lk_cons, lk_cons, lk_cons, ← ih, lk_cons]
      by_cases h1 : id = i
      · subst h1; rw [if_pos rfl, if_neg hj, if_pos rfl]
      · rw [if_neg h1]
        simp only [if_neg h1]
theorem putN_okD : ∀ {n : Nat} {new l r : List D}, putN n new l = some r → dput l n new = r ∧ n + new.length ≤ l.length
  | 0, [], l, r, h => by simp only [putN, Option.some.injEq] at h; subst h; simp [dput]
  | 0, v :: new, [], r, h => by cases h
  | 0, v :: new, x :: l, r, h => by
    simp only [putN] at h
    split at h
    · rename_i l' h1
      injection h with h; subst h
      obtain ⟨h2, h3⟩ := putN_okD h1
      refine ⟨?_, by simp only [List.length_cons]; omega⟩
      simp only [dput, List.take_zero, List.nil_append, Nat.zero_add, List.length_cons, List.drop_succ_cons] at h2 ⊢
      rw [← h2, List.cons_append]
    · cases h
  | n + 1, new, [], r, h => by cases h
  | n + 1, new, x :: l, r, h => by
    simp only [putN] at h
    split at h
    · rename_i l' h1
      injection h with h; subst h
      obtain ⟨h2, h3⟩ := putN_okD h1
      refine ⟨?_, by simp only [List.length_cons]; omega⟩
      simp only [dput, List.take_succ_cons, List.cons_append, show n + 1 + new.length = (n + new.length) + 1 by omega, List.drop_succ_cons] at h2 ⊢
      rw [← h2]
    · cases h
theorem flatN_put {n e i r : Nat} {f : Nat → List D} {ds fi : List D} (hl : ∀ j, j < n → (f j).length = e) (hi : i < n) (hp : putN r ds (f i) = some fi) :
    flatN n (fun j => selL (Nat.beq j i) fi (f j)) = dput (flatN n f) (i * e + r) ds := by
  obtain ⟨e1, e2⟩ := putN_okD hp
  have hfi : fi.length = e := by rw [← e1, ← hl i hi]; simp [dput]; omega
  have hl' : ∀ j, j < n → ((fun j => selL (Nat.beq j i) fi (f j)) j).length = e := fun j hj => by
    show (selL _ _ _).length = e
    rw [selL_eq]
    cases Nat.beq j i
    · exact hl j hj
    · exact hfi
  have hr : r + ds.length ≤ e := by rw [← hl i hi]; exact e2
  have hN := flatN_len hl
  have hlt : i * e + e ≤ n * e := by
    have : (i + 1) * e ≤ n * e := Nat.mul_le_mul_right _ hi
    rwa [Nat.add_mul, Nat.one_mul] at this
  apply List.ext_getElem?
  intro p
  by_cases hp2 : p < n * e
  · have he : 0 < e := by
      rcases Nat.eq_zero_or_pos e with h0 | h0
      · subst h0; simp at hp2
      · exact h0
    have hq : p / e < n := Nat.div_lt_of_lt_mul (by rwa [Nat.mul_comm])
    have hm : p % e < e := Nat.mod_lt _ he
    have hpe : p = (p / e) * e + p % e := by have := Nat.div_add_mod p e; rw [Nat.mul_comm] at this; exact this.symm
    rw [hpe, flatN_get hl' hq hm]
    generalize hqd : p / e = q at *
    generalize hmd : p % e = mm at *
    show (selL _ _ _)[mm]? = _
    rw [selL_eq]
    unfold dput
    by_cases hqi : q = i
    · subst hqi
      rw [Nat.beq_refl, cond_true, ← e1]
      unfold dput
      by_cases c1 : mm < r
      · rw [List.append_assoc, List.getElem?_append_left (by simp; omega), List.append_assoc, List.getElem?_append_left (by simp [hN]; omega), List.getElem?_take, if_pos c1, List.getElem?_take, if_pos (by omega), flatN_get hl hq hm]
      · by_cases c2 : mm < r + ds.length
        · rw [List.append_assoc, List.getElem?_append_right (by simp; omega), List.getElem?_append_left (by simp; omega), List.append_assoc, List.getElem?_append_right (by simp [hN]; omega), List.getElem?_append_left (by simp [hN]; omega)]
          congr 1
          simp [hN]; omega
        · have t1 : ((f q).take r ++ ds).length = r + ds.length := by simp; omega
          have t2 : ((flatN n f).take (q * e + r) ++ ds).length = q * e + r + ds.length := by simp [hN]; omega
          rw [List.getElem?_append_right (by omega), List.getElem?_append_right (by omega), t1, t2, List.getElem?_drop, List.getElem?_drop, show q * e + r + ds.length + (q * e + mm - (q * e + r + ds.length)) = q * e + mm by omega, flatN_get hl hq hm]
          congr 1; omega
    · have : Nat.beq q i = false := by
        cases hb : Nat.beq q i
        · rfl
        · exact absurd (Nat.eq_of_beq_eq_true hb) hqi
      rw [this, cond_false]
      by_cases c1 : q < i
      · have : (q + 1) * e ≤ i * e := Nat.mul_le_mul_right _ c1
        rw [Nat.add_mul, Nat.one_mul] at this
        rw [List.append_assoc, List.getElem?_append_left (by simp [hN]; omega), List.getElem?_take, if_pos (by omega), flatN_get hl hq hm]
      · have : (i + 1) * e ≤ q * e := Nat.mul_le_mul_right _ (by omega)
        rw [Nat.add_mul, Nat.one_mul] at this
        have t2 : ((flatN n f).take (i * e + r) ++ ds).length = i * e + r + ds.length := by simp [hN]; omega
        rw [List.getElem?_append_right (by omega), t2, List.getElem?_drop, show i * e + r + ds.length + (q * e + mm - (i * e + r + ds.length)) = q * e + mm by omega, flatN_get hl hq hm]
  · have t3 : (dput (flatN n f) (i * e + r) ds).length = n * e := by simp [dput, hN]; omega
    rw [List.getElem?_eq_none (by rw [flatN_len hl']; omega), List.getElem?_eq_none (by rw [t3]; omega)]
end
end Go.Proofs.Ythkoinngmcpjgaa

/-
  The reckoner: operations that make and write, all kinds. Conditions: none.
-/
namespace Go.Proofs.Ythkoinngmcpjgaa
open Go.RowKit

section
variable {E : Env} {k B : Nat} {s s' : Slots} {h h' : Hp} {Q Q' : Post} {U : Nat → Prop} {m : Nat → Option Nat} {a : Act} {w w' : World} {o : Oper} {v : V} {d n : Nat} {t u e : TypeId} {td ed : TypeDesc} {tz tb ez eb : Nat} {tr er : Option Value} {x y : Operand} {ρ g : Bool} {ops : Array Oper} {rest : List Oper} {K K' : Slots → Hp → Prop}

/-- A store into a row that is told element by element. -/
theorem storeE_run {e id i j n : Nat} {f : Nat → List D} {ds fi : List D} (r : SR k B U m s h a w) (ho : o.op = .store t x y) (ht : lk E.tab t = some ⟨td, tz, tb, tr⟩) (hx : evO s x = some (.el e id i j)) (hb : lk h.b id = some (some (.rows n e f))) (hy : evO s y = some v) (hcs : v.cs = ds.map .d) (hz : ds.length = tz)
    (hi : i < n) (he : 0 < e) (hp : putN j ds (f i) = some fi) :
    ∃ w', (execOp a.eval o).run E.P w = .ok .skip w' ∧ SR k B U m s ⟨h.n, (id, some (.rows n e (fun q => selL (Nat.beq q i) fi (f q)))) :: h.b⟩ a w' ∧ Stp h.n U m h.n h.b w U m h.n ((id, some (.rows n e (fun q => selL (Nat.beq q i) fi (f q)))) :: h.b) w' := by
  obtain ⟨b, h1, h2, h3⟩ := r.evEl hx
  obtain ⟨_, hbr⟩ := r.heap.live id _ hb
  rw [h1] at hbr
  have hbr0 := hbr
  cases hbr with | rows hlen hbr =>
  have hput := flatN_put (r := j) (ds := ds) hlen hi hp
  obtain ⟨p1, p2⟩ := putN_okD hp
  have hfl : fi.length = e := by rw [← p1, ← hlen i hi]; simp [dput]; omega
  have hlen' : ∀ q, q < n → ((fun q => selL (Nat.beq q i) fi (f q)) q).length = e := fun q hq => by
    show (selL _ _ _).length = e
    rw [selL_eq]
    cases Nat.beq q i
    · exact hlen q hq
    · exact hfl
  have hrl : j + ds.length ≤ e := by rw [← hlen i hi]; exact p2
  have hN := flatN_len hlen
  have hlt : i * e + e ≤ n * e := by
    have : (i + 1) * e ≤ n * e := Nat.mul_le_mul_right _ hi
    rwa [Nat.add_mul, Nat.one_mul] at this
  -- the same block, as a row of data
  obtain ⟨r1, st1⟩ := r.reblk (blk' := .dat (flatN n f)) hb (by rw [h1]; exact .dat hbr)
  have hc : v.cs.all cellOk = true := by rw [hcs]; exact all_d ds
  obtain ⟨arr, et, g1, g2, g3⟩ := hbr
  have hvcs := cs_ok (r.opnd hy) hc
  obtain ⟨c1, c2, c3⟩ := hvcs
  have hcl : (a.eval y).cells.size = ds.length := by rw [← c1, hcs]; simp
  have hst := run_storeCells_at (P := E.P) b (i * e + j) et (a.eval y).cells.toList 0 arr w g1 (by simp only [Array.length_toList]; omega) c3
  simp only [Nat.add_zero] at hst
  have hasz : (arr.toList.take (i * e + j) ++ (a.eval y).cells.toList ++ arr.toList.drop (i * e + j + (a.eval y).cells.toList.length)).toArray.size = arr.size := by
    simp only [List.size_toArray, List.length_append, List.length_take, List.length_drop, Array.length_toList]; omega
  have hU : ∀ z, U z → (w.setRow b (arr.toList.take (i * e + j) ++ (a.eval y).cells.toList ++ arr.toList.drop (i * e + j + (a.eval y).cells.toList.length)).toArray).heap[z]? = w.heap[z]? := fun z hz => setRow_other w b z _ (by rintro rfl; exact (r.heap.ok id _ z hb h1).1 hz)
  have hmo : ∀ c u, DR U w c u → DR U (w.setRow b (arr.toList.take (i * e + j) ++ (a.eval y).cells.toList ++ arr.toList.drop (i * e + j + (a.eval y).cells.toList.length)).toArray) c u := fun c u h5 => h5.mono (fun _ h => h) hU
  obtain ⟨r2, st2⟩ := r.write (blk' := .rows n e (fun q => selL (Nat.beq q i) fi (f q))) hb h1 g1 hasz
    (.rows hlen' ⟨_, et, setRow_same g1, by rw [hasz, hput]; simp only [dput, List.length_append, List.length_take, List.length_drop]; omega, fun p c u hc2 hu => by
      rw [hput] at hc2
      have hu' : (arr.toList.take (i * e + j) ++ (a.eval y).cells.toList ++ arr.toList.drop (i * e + j + (a.eval y).cells.toList.length))[p]? = some u := by simpa using hu
      have t1 : ((flatN n f).take (i * e + j)).length = i * e + j := by rw [List.length_take]; omega
      have t2 : (arr.toList.take (i * e + j)).length = i * e + j := by rw [List.length_take, Array.length_toList]; omega
      have t3 : (a.eval y).cells.toList.length = ds.length := by rw [Array.length_toList]; exact hcl
      rcases get_append3' hc2 with ⟨a1, a2⟩ | ⟨a1, a2, a3⟩ | ⟨a1, a2⟩ <;> rcases get_append3' hu' with ⟨b1, b2⟩ | ⟨b1, b2, b3⟩ | ⟨b1, b2⟩ <;> try omega
      · rw [List.getElem?_take, if_pos (by omega)] at a2 b2; exact hmo c u (g3 p c u a2 (by simpa using b2))
      · rw [t1] at a3; rw [t2] at b3
        have := c2 (p - (i * e + j)) (.d c) u (by rw [hcs, List.getElem?_map, a3]; rfl) (by simpa using b3)
        cases this with | d g => exact hmo c u g
      · rw [t1, List.getElem?_drop] at a2
        rw [t2, List.getElem?_drop] at b2
        refine hmo c u (g3 p c u ?_ ?_)
        · rwa [show i * e + j + ds.length + (p - (i * e + j + ds.length)) = p by omega] at a2
        · rw [t3, show i * e + j + ds.length + (p - (i * e + j + ds.length)) = p by omega] at b2; simpa using b2⟩)
  refine ⟨_, ?_, r2, st2⟩
  have hcs' : ¬ ((a.eval y).cells.size ≠ tz) := by omega
  simp only [execOp, ho, Instr.storeAt, h2, Instr.sureAddr, Sem.run_bind, Sem.run_pure, Result.andThen_ok, storeVar, szo ht w, if_neg hcs', hst]
theorem Ac.storeE {e id i j n : Nat} {f : Nat → List D} {ds fi : List D} (ho : o.op = .store t x y) (hd : o.dst = none) (ht : lk E.tab t = some ⟨td, tz, tb, tr⟩) (hx : evO s x = some (.el e id i j)) (hb : lk h.b id = some (some (.rows n e f))) (hy : evO s y = some v) (hcs : v.cs = ds.map .d) (hz : ds.length = tz)
    (hi : i < n) (he : 0 < e) (hp : putN j ds (f i) = some fi) : Ac E k B false s h o s ⟨h.n, (id, some (.rows n e (fun q => selL (Nat.beq q i) fi (f q)))) :: h.b⟩ := fun U m a w r => by
  obtain ⟨w', h1, h2, h3⟩ := storeE_run r ho ht hx hb hy hcs hz hi he hp
  refine ⟨_, _, w', U, m, h1, .inr ⟨rfl, rfl⟩, ?_, h3.low r.base, fun h => by cases h⟩
  rw [hd]; exact h2
theorem flat_ne {n e : Nat} {f : Nat → List D} (hl : ∀ i, i < n → (f i).length = e) (he : 0 < e) (h : flatN n f = []) : n = 0 := by
  have h1 : n * e = 0 := by rw [← flatN_len hl, h]; rfl
  rcases Nat.mul_eq_zero.1 h1 with h | h
  · exact h
  · omega
theorem blt_iff {a b : Nat} : Nat.blt a b = true ↔ a < b := ⟨Nat.le_of_ble_eq_true, Nat.ble_eq_true_of_le⟩
theorem blt_false {a b : Nat} (h : b ≤ a) : Nat.blt a b = false := by
  cases hb : Nat.blt a b
  · rfl
  · have := blt_iff.1 hb; omega
/-- A row behind a row. -/
noncomputable def appF (n : Nat) (f g : Nat → List D) : Nat → List D := fun i => selL (Nat.blt i n) (f i) (g (i - n))
theorem appF_flat {n nn : Nat} {f g : Nat → List D} : flatN (n + nn) (appF n f g) = flatN n f ++ flatN nn g := by
  rw [← flatN_app]
  exact flatN_ext fun i _ => selL_eq _ _ _
theorem appF_len {n nn e : Nat} {f g : Nat → List D} (hf : ∀ i, i < n → (f i).length = e) (hg : ∀ i, i < nn → (g i).length = e) : ∀ i, i < n + nn → (appF n f g i).length = e := fun i hi => by
  unfold appF
  rw [selL_eq]
  by_cases h : i < n
  · rw [blt_iff.2 h]; exact hf i h
  · rw [blt_false (by omega)]; exact hg _ (by omega)
/-- What is appended to a row: rows, or one element. -/
theorem Ac.appR {id n nn : Nat} {z : Value} {f gg : Nat → List D} (ho : o.op = .call { callee := .builtin .append, args := #[x, y], argTypes := #[t, t] }) (hd : o.dst = some d) (hk : Nat.blt d k = true) (ht : lk E.tab t = some ⟨td, tz, tb, tr⟩) (hty : td = .slice e) (hte : lk E.tab e = some ⟨ed, ez, eb, er⟩)
    (hz : er = some z) (hzs : z.cells.size = ez) (hx : evO s x = some (.sl ez id 0 n)) (hb : lk h.b id = some (some (.rows n ez f))) (hB : B ≤ id) (hsrc : Src s h y ez nn ((flatN nn gg).map .d)) (hf : ∀ i, i < n → (f i).length = ez) (hgl : ∀ i, i < nn → (gg i).length = ez) (he : 0 < ez)
    (hby : (n + nn) * eb ≤ 140737488355328) (hby0 : 0 < eb) :
    Ac E k B false s h o ((d, .sl ez id 0 (n + nn)) :: dropS id s) ⟨h.n, (id, some (.rows (n + nn) ez (appF n f gg))) :: dropH id h.b⟩ :=
  Ac.append ho hd hk ht hty hte hz hzs hx hb hB (.rows hf (flat_ne hf he)) (by rw [List.length_map]; exact flatN_len hf) hsrc (hasL_map _ _) (hasL_map _ _)
    (by rw [← List.map_append, ← appF_flat]; exact .rows (appF_len hf hgl) (flat_ne (appF_len hf hgl) he)) hby hby0
theorem rows_len (r : SR k B U m s h a w) {x : Operand} {nn e : Nat} {g : Nat → List D} (hx : evO s x = some (.d (.rows nn e g))) : ∀ i, i < nn → (g i).length = e := by
  have h1 := r.evD hx
  generalize a.eval x = v at h1
  cases h1 with | rows hl _ => exact hl
theorem blk_len (r : SR k B U m s h a w) {id n e : Nat} {f : Nat → List D} (hb : lk h.b id = some (some (.rows n e f))) : ∀ i, i < n → (f i).length = e := by
  obtain ⟨_, hbr⟩ := r.heap.live id _ hb
  generalize m id = mx at hbr
  cases hbr with
  | rows hl _ => exact hl
  | rows0 => exact fun i hi => by omega
/-- Rows appended to a row at hand. -/
theorem Ac.appRR {id n nn : Nat} {z : Value} {f gg : Nat → List D} (ho : o.op = .call { callee := .builtin .append, args := #[x, y], argTypes := #[t, t] }) (hd : o.dst = some d) (hk : Nat.blt d k = true) (ht : lk E.tab t = some ⟨td, tz, tb, tr⟩) (hty : td = .slice e) (hte : lk E.tab e = some ⟨ed, ez, eb, er⟩)
    (hz : er = some z) (hzs : z.cells.size = ez) (hx : evO s x = some (.sl ez id 0 n)) (hb : lk h.b id = some (some (.rows n ez f))) (hB : B ≤ id) (hy : evO s y = some (.d (.rows nn ez gg))) (he : 0 < ez)
    (hby : (n + nn) * eb ≤ 140737488355328) (hby0 : 0 < eb) :
    Ac E k B false s h o ((d, .sl ez id 0 (n + nn)) :: dropS id s) ⟨h.n, (id, some (.rows (n + nn) ez (appF n f gg))) :: dropH id h.b⟩ := fun U m a w r =>
  Ac.appR ho hd hk ht hty hte hz hzs hx hb hB (Src.rows hy he) (blk_len r hb) (rows_len r hy) he hby hby0 U m a w r
/-- One element appended to a row at hand. -/
theorem Ac.appR1 {id n : Nat} {z : Value} {f : Nat → List D} {cs : List D} (ho : o.op = .call { callee := .builtin .append, args := #[x, y], argTypes := #[t, t] }) (hd : o.dst = some d) (hk : Nat.blt d k = true) (ht : lk E.tab t = some ⟨td, tz, tb, tr⟩) (hty : td = .slice e) (hte : lk E.tab e = some ⟨ed, ez, eb, er⟩)
    (hz : er = some z) (hzs : z.cells.size = ez) (hx : evO s x = some (.sl ez id 0 n)) (hb : lk h.b id = some (some (.rows n ez f))) (hB : B ≤ id) (hy : evO s y = some (.d (.lst 1 cs))) (hcl : cs.length = ez) (he : 0 < ez)
    (hby : (n + 1) * eb ≤ 140737488355328) (hby0 : 0 < eb) :
    Ac E k B false s h o ((d, .sl ez id 0 (n + 1)) :: dropS id s) ⟨h.n, (id, some (.rows (n + 1) ez (appF n f (fun _ => cs)))) :: dropH id h.b⟩ := fun U m a w r =>
  Ac.appR (gg := fun _ => cs) ho hd hk ht hty hte hz hzs hx hb hB (by have := Src.lst (h := h) (e := ez) hy (by omega) he; simpa [flatN] using this) (blk_len r hb) (fun _ _ => hcl) he hby hby0 U m a w r
/-- A nil slice becomes a row at hand without a block. -/
theorem Ef.virt {tt e n : Nat} (hv : lk s tt = some (.d .nsl)) (hn : h.n = n) (q : Ef E k B g ((tt, .sl e n 0 0) :: s) ⟨n + 1, (n, some (.dat [])) :: h.b⟩ o K) : Ef E k B g s h o K := fun U m a w N R r hN => by
  subst hn
  obtain ⟨r1, st⟩ := r.virt (e := e) hv
  exact q _ _ a w N R r1 fun a' w' U' m' s' h' k1 r2 st2 hs => hN a' w' U' m' s' h' k1 r2 ((st.low r.base).trans st2) hs
theorem Ef.virtR {tt e n : Nat} {f : Nat → List D} (hv : lk s tt = some (.d .nsl)) (hn : h.n = n) (q : Ef E k B g ((tt, .sl e n 0 0) :: s) ⟨n + 1, (n, some (.rows 0 e f)) :: h.b⟩ o K) : Ef E k B g s h o K := fun U m a w N R r hN => by
  subst hn
  obtain ⟨r1, st⟩ := r.virt (e := e) hv
  have r2 : SR k B U (ext m h.n none) ((tt, .sl e h.n 0 0) :: s) ⟨h.n + 1, (h.n, some (.rows 0 e f)) :: (h.n, some (.dat [])) :: h.b⟩ a w ∧ _ := r1.reblk (id := h.n) (blk := .dat []) (blk' := .rows 0 e f) (lk_here _ _ _) (by rw [ext_here]; exact .rows0)
  have e1 : HEq ((h.n, some (Blk.rows 0 e f)) :: (h.n, some (Blk.dat [])) :: h.b) ((h.n, some (.rows 0 e f)) :: h.b) := fun i => by
    simp only [lk_cons]; split <;> rfl
  exact q _ _ a w N R (r2.1.heq e1) fun a' w' U' m' s' h' k1 r3 st3 hs => hN a' w' U' m' s' h' k1 r3 ((st.low r.base).trans ((r2.2.heq e1).trans st3)) hs
/-- A literal of one element, as a row at hand. -/
theorem SR.rows1 {c z : Nat} {ds : List D} (r : SR k B U m s ⟨n, (c, some (.dat ds)) :: h.b⟩ a w) (hz : ds.length = z) (hzp : 0 < z) (hm : m c ≠ none) : SR k B U m s ⟨n, (c, some (.rows 1 z (fun _ => ds))) :: h.b⟩ a w ∧ Stp B U m n ((c, some (.dat ds)) :: h.b) w U m n ((c, some (.rows 1 z (fun _ => ds))) :: h.b) w := by
  obtain ⟨hid, hbr⟩ := r.heap.live c _ (lk_here _ _ _)
  have r2 := r.reblk (id := c) (blk := .dat ds) (blk' := .rows 1 z (fun _ => ds)) (lk_here _ _ _) (by
    generalize m c = mx at hbr hm
    cases hbr with
    | dat hc => exact .rows (fun _ _ => hz) (by simpa [flatN] using hc)
    | dat0 => exact absurd rfl hm)
  have e1 : HEq ((c, some (Blk.rows 1 z (fun _ => ds))) :: (c, some (Blk.dat ds)) :: h.b) ((c, some (.rows 1 z (fun _ => ds))) :: h.b) := fun i => by
    simp only [lk_cons]; split <;> rfl
  exact ⟨r2.1.heq e1, r2.2.heq e1⟩
end
end Go.Proofs.Ythkoinngmcpjgaa

/-
  The reckoner: what operations that make and write come to. Conditions: none.
-/
namespace Go.Proofs.Ythkoinngmcpjgaa
open Go.RowKit

section
variable {E : Env} {k B : Nat} {s s' : Slots} {h h' : Hp} {Q Q' : Post} {U : Nat → Prop} {m : Nat → Option Nat} {a : Act} {w w' : World} {o : Oper} {v : V} {d n : Nat} {t u e : TypeId} {td ed : TypeDesc} {tz tb ez eb : Nat} {tr er : Option Value} {x y : Operand} {ρ g : Bool} {ops : Array Oper} {rest : List Oper} {K K' : Slots → Hp → Prop}

def unDs : List V → Option (List D)
  | [] => some []
  | v :: r => match v with
    | .d x => match unDs r with
      | some l => some (x :: l)
      | none => none
    | _ => none
theorem unDs_eq : ∀ l : List V, unDs l = unD l
  | [] => rfl
  | .d x :: r => by simp only [unDs, unD, unDs_eq r]; cases unD r <;> rfl
  | .un :: r => rfl
  | .nn _ _ :: r => rfl
  | .sl .. :: r => rfl
  | .ptr .. :: r => rfl
  | .el .. :: r => rfl
  | .map _ :: r => rfl
  | .fn .. :: r => rfl
  | .ifc .. :: r => rfl
  | .agg _ :: r => rfl
  | .tup _ :: r => rfl
/-- An element type: its cells, its bytes, the cells of its zero value. -/
noncomputable def elI (tab : List (Nat × Ty)) (t : Nat) : Option (Nat × Nat × List V) :=
  match lkr tab t with
  | some ty => match slD ty.d with
    | some e => match lkr tab e with
      | some te => match te.zero with
        | some z => match absL z.cells.toList with
          | some zl => match lenN te.size zl with
            | true => some (te.size, te.bytes, zl)
            | false => none
          | none => none
        | none => none
      | none => none
    | none => none
  | none => none
theorem elI_ok {t ez eb : Nat} {zl : List V} (h1 : elI E.tab t = some (ez, eb, zl)) : ∃ td tz tb tr e ed er z, lk E.tab t = some ⟨td, tz, tb, tr⟩ ∧ td = .slice e ∧ lk E.tab e = some ⟨ed, ez, eb, er⟩ ∧ er = some z ∧ z.cells.size = ez ∧ absL z.cells.toList = some zl := by
  unfold elI at h1
  rw [lkr_eq] at h1
  split at h1
  · rename_i ty ht
    split at h1
    · rename_i hd
      have hd := slD_ok hd
      rw [lkr_eq] at h1
      split at h1
      · rename_i te hte
        split at h1
        · rename_i z hz
          split at h1
          · rename_i zl' hzl
            split at h1
            · rename_i hl
              injection h1 with h1; simp only [Prod.mk.injEq] at h1; obtain ⟨g1, g2, g3⟩ := h1
              obtain ⟨td, tz, tb, tr⟩ := ty
              obtain ⟨ed, ez', eb', er⟩ := te
              dsimp only at *
              subst g1; subst g2; subst g3
              have := lenN_ok hl
              obtain ⟨g4, _⟩ := absL_ok (U := fun _ => False) (m := fun _ => none) (n := 0) (w := default) hzl
              exact ⟨td, tz, tb, tr, _, ed, er, z, ht, hd, hte, hz, by rw [← this, g4]; simp, hzl⟩
            · cases h1
          · cases h1
        · cases h1
      · cases h1
    · cases h1
  · cases h1
/-- A literal of a slice. -/
noncomputable def bsX (X : Fx) (d len : Nat) (t : Nat) (parts : List (Nat × Operand)) (s : Slots) (hn : Nat) (hb : Heap) : Option (Bool × Slots × Hp) :=
  match elI X.tab t with
  | some (ez, _, zl) => match Nat.blt 0 ez, Nat.ble (len * ez) 16777216, fillX (fun i => some (i * ez, ez)) s parts (vzero (len * ez) zl) with
    | true, true, some l => match memN d X.hd with
      | true => match lenN (len * ez) l with
        | true => match unDs l with
          | some ds => some (true, (d, .sl ez hn 0 len) :: s, ⟨hn + 1, setH hn (some (.dat ds)) hb⟩)
          | none => some (true, (d, .sl ez hn 0 len) :: s, ⟨hn + 1, setH hn (some (.cells l)) hb⟩)
        | false => none
      | false => match unDs l with
        | some ds => some (true, (d, .d (.lst len ds)) :: s, ⟨hn, hb⟩)
        | none => none
    | _, _, _ => none
  | none => none
theorem bsX_ok {X : Fx} {len : Nat} {parts : Array (Nat × Operand)} {c : Bool} (hX : X.tab = E.tab) (ho : o.op = .buildSlice t len parts) (hd : o.dst = some d) (hk : Nat.blt d k = true) (h1 : bsX X d len t parts.toList s h.n h.b = some (c, s', h')) : Ef E k B true s h o (fun s2 h2 => s2 = s' ∧ h2 = h') := by
  obtain ⟨hn, hb⟩ := h
  unfold bsX at h1
  rw [hX] at h1
  dsimp only at h1
  split at h1
  · rename_i ez eb zl hel
    obtain ⟨td, tz, tb, tr, e, ed, er, z, g1, g2, g3, g4, g5, g6⟩ := elI_ok hel
    split at h1
    · rename_i l hp hbig hl
      have hl := fillX_ok hl
      have hzp : Nat.blt 0 z.cells.size = true := by rw [g5]; exact hp
      split at h1
      · split at h1
        · rename_i hlen
          have hlb : Nat.beq l.length (len * ez) = true := by rw [lenN_ok hlen]; exact Nat.beq_refl _
          split at h1
          · rename_i ds hds
            rw [unDs_eq] at hds
            injection h1 with h1; simp only [Prod.mk.injEq] at h1; obtain ⟨_, rfl, rfl⟩ := h1
            exact Ef.heq (setH_eq _ _ _) (Ef.ac (Ac.sliceDat ho hd hk g1 g2 g3 g4 g6 hzp hbig hl hlb hp hds rfl) ⟨rfl, rfl⟩) ⟨rfl, rfl⟩
          · injection h1 with h1; simp only [Prod.mk.injEq] at h1; obtain ⟨_, rfl, rfl⟩ := h1
            exact Ef.heq (setH_eq _ _ _) (Ef.ac (Ac.slice ho hd hk g1 g2 g3 g4 g6 hzp hbig hl hlb hp rfl) ⟨rfl, rfl⟩) ⟨rfl, rfl⟩
        · cases h1
      · split at h1
        · rename_i ds hds
          rw [unDs_eq] at hds
          injection h1 with h1; simp only [Prod.mk.injEq] at h1; obtain ⟨_, rfl, rfl⟩ := h1
          exact Ef.ac (Ac.sliceD ho hd hk g1 g2 g3 g4 g6 hzp hbig hl hp hds) ⟨rfl, rfl⟩
        · cases h1
    · cases h1
  · cases h1
/-- A store. -/
noncomputable def stX (X : Fx) (t : Nat) (v1 v2 : V) (s : Slots) (hn : Nat) (hb : Heap) : Option (Bool × Slots × Hp) :=
  match lkr X.tab t, csOf v2 with
  | some ty, some l => match lenN ty.size l with
    | true => match v1 with
      | .ptr id off => match lkr hb id with
        | some (some (.cells bc)) => match putN off l bc with
          | some bc' => some (true, s, ⟨hn, setH id (some (.cells bc')) hb⟩)
          | none => none
        | some (some (.dat bc)) => match unDs l with
          | some ds => match putN off ds bc with
            | some bc' => some (true, s, ⟨hn, setH id (some (.dat bc')) hb⟩)
            | none => none
          | none => none
        | _ => none
      | .el e id i j => match lkr hb id with
        | some (some (.rows n e' f)) => match Nat.beq e e', Nat.blt 0 e', unDs l with
          | true, true, some ds => match putN j ds (f i) with
            | some fi => some (Nat.blt i n, s, ⟨hn, setH id (some (.rows n e' (fun q => selL (Nat.beq q i) fi (f q)))) hb⟩)
            | none => none
          | _, _, _ => none
        | _ => none
      | _ => none
    | false => none
  | _, _ => none
theorem stX_ok {X : Fx} {c : Bool} {v1 v2 : V} (hX : X.tab = E.tab) (ho : o.op = .store t x y) (hd : o.dst = none) (hx : evO s x = some v1) (hy : evO s y = some v2) (h1 : stX X t v1 v2 s h.n h.b = some (c, s', h')) (hc : c = true) : Ef E k B false s h o (fun s2 h2 => s2 = s' ∧ h2 = h') := by
  obtain ⟨hn, hb⟩ := h
  unfold stX at h1
  rw [hX, lkr_eq] at h1
  dsimp only at h1
  split at h1
  · rename_i ty l ht hl
    obtain ⟨td, tz, tb, tr⟩ := ty
    obtain ⟨e1, e2⟩ := csOf_ok hl
    subst e1
    split at h1
    · rename_i hz
      have hz' := lenN_ok hz
      have hzb : Nat.beq v2.cs.length tz = true := by rw [hz']; exact Nat.beq_refl _
      split at h1
      · rw [lkr_eq] at h1
        split at h1
        · rename_i bc hbk
          split at h1
          · rename_i bc' hp
            obtain ⟨e3, e4⟩ := putN_ok hp
            injection h1 with h1; simp only [Prod.mk.injEq] at h1; obtain ⟨_, rfl, rfl⟩ := h1
            refine Ef.heq (setH_eq _ _ _) (Ef.ac (Ac.store ho hd ht hx hbk hy e2 hzb (Nat.ble_eq_true_of_le e4)) ⟨rfl, ?_⟩) ⟨rfl, rfl⟩
            rw [e3]
          · cases h1
        · rename_i bc hbk
          split at h1
          · rename_i ds hds
            rw [unDs_eq] at hds
            split at h1
            · rename_i bc' hp
              obtain ⟨e3, e4⟩ := putN_okD hp
              injection h1 with h1; simp only [Prod.mk.injEq] at h1; obtain ⟨_, rfl, rfl⟩ := h1
              have e5 := unD_ok hds
              refine Ef.heq (setH_eq _ _ _) (Ef.ac (Ac.storeD ho hd ht hx hbk hy hds hzb (by rw [e5]; simpa using e4)) ⟨rfl, ?_⟩) ⟨rfl, rfl⟩
              rw [e3]
            · cases h1
          · cases h1
        · cases h1
      · rw [lkr_eq] at h1
        split at h1
        · rename_i n e' f hbk
          split at h1
          · rename_i ds he hp0 hds
            rw [unDs_eq] at hds
            have he := Nat.eq_of_beq_eq_true he
            subst he
            split at h1
            · rename_i fi hp
              injection h1 with h1; simp only [Prod.mk.injEq] at h1; obtain ⟨h1, rfl, rfl⟩ := h1
              subst h1
              have e5 := unD_ok hds
              exact Ef.heq (setH_eq _ _ _) (Ef.ac (Ac.storeE ho hd ht hx hbk hy e5 (by rw [e5] at hz'; simpa using hz') (blt_iff.1 hc) (blt_iff.1 hp0) hp) ⟨rfl, rfl⟩) ⟨rfl, rfl⟩
            · cases h1
          · cases h1
        · cases h1
      · cases h1
    · cases h1
  · cases h1
/-- What is appended: rows, or one element. -/
noncomputable def srcX (ez q : Nat) (hb : Heap) (v : V) : Option (Bool × Nat × (Nat → List D)) :=
  match v with
  | .d (.rows nn e g) => match Nat.beq e ez with
    | true => some (true, nn, g)
    | false => none
  | .d (.lst 1 cs) => match lenN ez cs with
    | true => some (true, 1, fun _ => cs)
    | false => none
  | .sl e id 0 nn => match Nat.beq e ez && !Nat.beq id q, lkr hb id with
    | true, some (some (.rows n' e' g)) => match Nat.beq e' ez with
      | true => some (decide (nn ≤ n'), nn, g)
      | false => none
    | true, some (some (.dat cs)) => match nn with
      | 1 => match lenN ez cs with
        | true => some (true, 1, fun _ => cs)
        | false => none
      | _ => none
    | _, _ => none
  | _ => none
theorem shrink_rows {mx : Option Nat} {n n' e q : Nat} {f : Nat → List D} (hn : n ≤ n') (h : BR U m q w mx (.rows n' e f)) : BR U m q w mx (.rows n e f) := by
  cases h with
  | rows hl h =>
    obtain ⟨arr, t, h1, h2, h3⟩ := h
    have ht : (flatN n' f).take (n * e) = flatN n f := flatN_take hl hn
    have hlen := flatN_len hl
    refine .rows (fun i hi => hl i (by omega)) ⟨arr, t, h1, ?_, fun j c v hc hv => ?_⟩
    · rw [← ht, List.length_take]; omega
    · rw [← ht, List.getElem?_take] at hc
      split at hc
      · exact h3 j c v hc hv
      · cases hc
  | rows0 =>
    obtain rfl : n = 0 := by omega
    exact .rows0
theorem srcX_ok {x : Operand} {nn : Nat} {g : Nat → List D} {c : Bool} {hb : Heap} (hx : evO s x = some v) {q : Nat} (h1 : srcX ez q hb v = some (c, nn, g)) (hc : c = true) (he : 0 < ez) : ∀ k B U m a w, (∀ id blk, id ≠ q → lk hb id = some (some blk) → lk h.b id = some (some blk)) → SR k B U m s h a w → (∀ i, i < nn → (g i).length = ez) ∧ Src s h x ez nn ((flatN nn g).map .d) := fun k B U m a w hB r => by
  unfold srcX at h1
  split at h1
  · split at h1
    · rename_i e1
      have e1 := Nat.eq_of_beq_eq_true e1
      subst e1
      injection h1 with h1; simp only [Prod.mk.injEq] at h1; obtain ⟨_, rfl, rfl⟩ := h1
      exact ⟨rows_len r hx, Src.rows hx he⟩
    · cases h1
  · split at h1
    · rename_i hl
      have hl := lenN_ok hl
      injection h1 with h1; simp only [Prod.mk.injEq] at h1; obtain ⟨_, rfl, rfl⟩ := h1
      exact ⟨fun _ _ => hl, by have := Src.lst (h := h) (e := ez) hx (by omega) he; simpa [flatN] using this⟩
    · cases h1
  · rename_i e0 id0 k0
    rw [lkr_eq] at h1
    split at h1
    · rename_i n' e' g' e1 hbk
      obtain ⟨e1, eq⟩ := and_split e1
      have hne : id0 ≠ q := ne_of_beq (by simpa using eq)
      have e1 := Nat.eq_of_beq_eq_true e1
      subst e1
      split at h1
      · rename_i e2
        have e2 := Nat.eq_of_beq_eq_true e2
        subst e2
        injection h1 with h1; simp only [Prod.mk.injEq] at h1; obtain ⟨h1, rfl, rfl⟩ := h1
        subst h1
        have hle := of_decide_eq_true hc
        have hlk := hB _ _ hne hbk
        have hlen := blk_len r hlk
        refine ⟨fun i hi => hlen i (by omega), fun k B U m a w r => ?_⟩
        have hlen := blk_len r hlk
        have hbr : BR U m h.n w (m id0) (.dat (flatN n' g')) := by
          obtain ⟨_, hbr⟩ := r.heap.live _ _ hlk
          generalize m id0 = mx at hbr
          cases hbr with
          | rows _ q => exact .dat q
          | rows0 => exact .dat0
        obtain ⟨r1, _⟩ := r.reblk hlk hbr
        have ht := flatN_take hlen hle
        exact Src.dat (h := ⟨h.n, (id0, some (.dat (flatN n' g'))) :: h.b⟩) hx (lk_here _ _ _) (by rw [List.drop_zero]; exact ht) (flatN_len fun i hi => hlen i (by omega)) _ _ _ _ _ _ r1
      · cases h1
    · rename_i cs e1 hbk
      obtain ⟨e1, eq⟩ := and_split e1
      have hne : id0 ≠ q := ne_of_beq (by simpa using eq)
      have e1 := Nat.eq_of_beq_eq_true e1
      subst e1
      split at h1
      · split at h1
        · rename_i hl
          have hl := lenN_ok hl
          injection h1 with h1; simp only [Prod.mk.injEq] at h1; obtain ⟨_, rfl, rfl⟩ := h1
          have hlk := hB _ _ hne hbk
          refine ⟨fun _ _ => hl, fun k B U m a w r => ?_⟩
          have := Src.dat (l := cs) hx hlk (by rw [List.drop_zero, List.take_of_length_le (by omega)]) (by omega) k B U m a w r
          simpa [flatN] using this
        · cases h1
      · cases h1
    · cases h1
  · cases h1
theorem Ef.pre (e : ∀ U m a w, SR k B U m s h a w → Ef E k B g s h o K) : Ef E k B g s h o K := fun U m a w N R r => e U m a w r U m a w N R r
theorem dat_rows0 {mx : Option Nat} {q e : Nat} {f : Nat → List D} (h : BR U m q w mx (.dat [])) : BR U m q w mx (.rows 0 e f) := by
  cases h with
  | dat h => exact .rows (fun i hi => by omega) h
  | dat0 => exact .rows0
/-- What is appended to a row that is told anew. -/
theorem Ef.reApp {id n nn hn : Nat} {hb : Heap} {blk : Blk} {z : Value} {f gg : Nat → List D} (ho : o.op = .call { callee := .builtin .append, args := #[x, y], argTypes := #[t, t] }) (hd : o.dst = some d) (hk : Nat.blt d k = true) (ht : lk E.tab t = some ⟨td, tz, tb, tr⟩) (hty : td = .slice e) (hte : lk E.tab e = some ⟨ed, ez, eb, er⟩)
    (hz : er = some z) (hzs : z.cells.size = ez) (hx : evO s x = some (.sl ez id 0 n)) (hb0 : lk hb id = some (some blk)) (hbr : ∀ U m w mx, BR U m hn w mx blk → BR U m hn w mx (.rows n ez f)) (hB : B ≤ id) (hsrc' : Src s ⟨hn, (id, some (.rows n ez f)) :: hb⟩ y ez nn ((flatN nn gg).map .d)) (hf : ∀ i, i < n → (f i).length = ez) (hgl : ∀ i, i < nn → (gg i).length = ez) (he : 0 < ez)
    (hby : (n + nn) * eb ≤ 140737488355328) (hby0 : 0 < eb) :
    Ef E k B false s ⟨hn, hb⟩ o (fun s2 h2 => s2 = (d, .sl ez id 0 (n + nn)) :: dropS id s ∧ h2 = ⟨hn, setH id (some (.rows (n + nn) ez (appF n f gg))) (dropH id hb)⟩) := fun U m a w N R r hN => by
  obtain ⟨r1, st1⟩ := r.reblk (blk' := .rows n ez f) hb0 (hbr _ _ _ _ (r.heap.live id _ hb0).2)
  have e1 : HEq ((id, some (Blk.rows (n + nn) ez (appF n f gg))) :: dropH id ((id, some (.rows n ez f)) :: hb)) (setH id (some (.rows (n + nn) ez (appF n f gg))) (dropH id hb)) := fun i => by
    rw [← setH_eq]
    show lk (_ :: (id, _) :: dropH id hb) i = _
    simp only [lk_cons]; split <;> rfl
  exact Ef.heq (K := fun s2 h2 => s2 = (d, .sl ez id 0 (n + nn)) :: dropS id s ∧ h2 = ⟨hn, setH id (some (.rows (n + nn) ez (appF n f gg))) (dropH id hb)⟩) e1 (Ef.ac (Ac.appR (h := ⟨hn, (id, some (.rows n ez f)) :: hb⟩) ho hd hk ht hty hte hz hzs hx (lk_here _ _ _) hB hsrc' hf hgl he hby hby0) ⟨rfl, rfl⟩) ⟨rfl, rfl⟩ U m a w N R r1 fun a' w' U' m' s' h' k1 r2 st2 hs => hN a' w' U' m' s' h' k1 r2 (st1.trans st2) hs
noncomputable def apX (X : Fx) (B d : Nat) (t : Nat) (x : Operand) (v1 v2 : V) (s : Slots) (hn : Nat) (hb : Heap) : Option (Bool × Slots × Hp) :=
  match elI X.tab t with
  | some (ez, eb, _) => match Nat.blt 0 ez, Nat.blt 0 eb with
    | true, true => match v1 with
      | .sl e id off n => match Nat.beq e ez, off, Nat.ble B id, lkr hb id with
        | true, 0, true, some (some (.rows n' e' f)) => match Nat.beq e' ez, srcX ez id hb v2 with
          | true, some (cb, nn, g) => some (cb && (decide (n ≤ n') && decide ((n + nn) * eb ≤ 140737488355328)), (d, .sl ez id 0 (n + nn)) :: dropS id s, ⟨hn, setH id (some (.rows (n + nn) ez (appF n f g))) (dropH id hb)⟩)
          | _, _ => none
        | true, 0, true, some (some (.dat bc)) => match v2 with
          | .d (.lst nn cs) => match lenN (n * ez) bc, lenN (nn * ez) cs with
            | true, true => some (decide ((n + nn) * eb ≤ 140737488355328), (d, .sl ez id 0 (n + nn)) :: dropS id s, ⟨hn, setH id (some (.dat (bc ++ cs))) (dropH id hb)⟩)
            | _, _ => none
          | v2 => match bc, n, srcX ez id hb v2 with
            | [], 0, some (cb, nn, g) => some (cb && decide ((0 + nn) * eb ≤ 140737488355328), (d, .sl ez id 0 (0 + nn)) :: dropS id s, ⟨hn, setH id (some (.rows (0 + nn) ez (appF 0 (fun _ => []) g))) (dropH id hb)⟩)
            | _, _, _ => none
        | _, _, _, _ => none
      | .d .nsl => match x with
        | .tmp tt => match X.lit || memN d X.hd with
          | true => match v2 with
            | .d (.lst nn cs) => match lenN (nn * ez) cs, Nat.ble B hn with
              | true, true => some (decide ((0 + nn) * eb ≤ 140737488355328), (d, .sl ez hn 0 (0 + nn)) :: dropS hn ((tt, .sl ez hn 0 0) :: s), ⟨hn + 1, setH hn (some (.dat ([] ++ cs))) (dropH hn ((hn, some (.dat [])) :: hb))⟩)
              | _, _ => none
            | _ => none
          | false => match srcX ez hn hb v2, Nat.ble B hn with
            | some (cb, nn, g), true => some (cb && decide ((0 + nn) * eb ≤ 140737488355328), (d, .sl ez hn 0 (0 + nn)) :: dropS hn ((tt, .sl ez hn 0 0) :: s), ⟨hn + 1, setH hn (some (.rows (0 + nn) ez (appF 0 (fun _ => []) g))) (dropH hn ((hn, some (.rows 0 ez (fun _ => []))) :: hb))⟩)
            | _, _ => none
        | _ => none
      | _ => none
    | _, _ => none
  | none => none
theorem evO_put {y : Operand} {tt : Nat} {v1 : V} (hy : evO s y = some v) (hx : lk s tt = some v1) (hne : v ≠ v1) (v' : V) : evO ((tt, v') :: s) y = some v := by
  cases y with
  | tmp t =>
    simp only [evO] at hy ⊢
    rw [lk_cons, if_neg]
    · exact hy
    · rintro rfl
      rw [hy] at hx; injection hx with hx; exact hne hx
  | const c => exact hy
  | func f => exact hy
  | global g => cases hy
theorem apX_ok {X : Fx} {c : Bool} {v1 v2 : V} (hX : X.tab = E.tab) (ho : o.op = .call { callee := .builtin .append, args := #[x, y], argTypes := #[t, t] }) (hd : o.dst = some d) (hk : Nat.blt d k = true) (hx : evO s x = some v1) (hy : evO s y = some v2) (h1 : apX X B d t x v1 v2 s h.n h.b = some (c, s', h')) (hc : c = true) : Ef E k B false s h o (fun s2 h2 => s2 = s' ∧ h2 = h') := by
  obtain ⟨hn, hb⟩ := h
  unfold apX at h1
  rw [hX] at h1
  dsimp only at h1
  split at h1
  · rename_i ez eb zl hel
    obtain ⟨td, tz, tb, tr, e, ed, er, z, g1, g2, g3, g4, g5, g6⟩ := elI_ok hel
    split at h1
    · rename_i hp hpb
      have hp := blt_iff.1 hp
      have hpb := blt_iff.1 hpb
      split at h1
      · rename_i e0 id0 off0 n0
        rw [lkr_eq] at h1
        split at h1
        · rename_i n' e' f he hBi hbk
          have he := Nat.eq_of_beq_eq_true he
          subst he
          split at h1
          · rename_i cb nn gg he' hsrc
            have he' := Nat.eq_of_beq_eq_true he'
            subst he'
            injection h1 with h1; simp only [Prod.mk.injEq] at h1; obtain ⟨h1, rfl, rfl⟩ := h1
            subst h1
            obtain ⟨cc, hc⟩ := and_split hc
            obtain ⟨c1, c2⟩ := and_split hc
            have c1 := of_decide_eq_true c1
            have c2 := of_decide_eq_true c2
            refine Ef.pre fun U m a w r => ?_
            obtain ⟨r1, _⟩ := r.reblk (blk' := .rows n0 _ f) hbk (shrink_rows c1 (r.heap.live _ _ hbk).2)
            obtain ⟨q1, q2⟩ := srcX_ok hy hsrc cc hp _ _ U m a w (fun i bk hi h => by rw [lk_there (Ne.symm hi)]; exact h) r1
            exact Ef.reApp ho hd hk g1 g2 g3 g4 g5 hx hbk (fun U m w mx q => shrink_rows c1 q) (Nat.le_of_ble_eq_true hBi) q2 (fun i hi => blk_len r hbk i (by omega)) q1 hp c2 hpb
          · cases h1
        · rename_i bc he hBi hbk
          have he := Nat.eq_of_beq_eq_true he
          subst he
          split at h1
          · rename_i nn cs
            split at h1
            · rename_i l1 l2
              injection h1 with h1; simp only [Prod.mk.injEq] at h1; obtain ⟨h1, rfl, rfl⟩ := h1
              subst h1
              have c2 := of_decide_eq_true hc
              exact Ef.heq (setH_eq _ _ _) (Ef.ac (Ac.appendD ho hd hk g1 g2 g3 g4 g5 hx hbk hBi hy (blt_iff.2 hp) (blt_iff.2 hpb) (lenN_ok l1) (lenN_ok l2) c2) ⟨rfl, rfl⟩) ⟨rfl, rfl⟩
            · cases h1
          · split at h1
            · rename_i cb nn gg hsrc
              injection h1 with h1; simp only [Prod.mk.injEq] at h1; obtain ⟨h1, rfl, rfl⟩ := h1
              subst h1
              obtain ⟨cc, c2⟩ := and_split hc
              have c2 := of_decide_eq_true c2
              refine Ef.pre fun U m a w r => ?_
              obtain ⟨r1, _⟩ := r.reblk (blk' := .rows 0 e0 (fun _ => [])) hbk (dat_rows0 (r.heap.live _ _ hbk).2)
              obtain ⟨q1, q2⟩ := srcX_ok hy hsrc cc hp _ _ U m a w (fun i bk hi h => by rw [lk_there (Ne.symm hi)]; exact h) r1
              exact Ef.reApp ho hd hk g1 g2 g3 g4 g5 hx hbk (fun U m w mx q => dat_rows0 q) (Nat.le_of_ble_eq_true hBi) q2 (fun i hi => by omega) q1 hp c2 hpb
            · cases h1
        · cases h1
      · split at h1
        · rename_i tt
          split at h1
          · split at h1
            · rename_i nn cs
              split at h1
              · rename_i l2 hBn
                injection h1 with h1; simp only [Prod.mk.injEq] at h1; obtain ⟨h1, rfl, rfl⟩ := h1
                subst h1
                have c2 := of_decide_eq_true hc
                refine Ef.virt (e := ez) (tt := tt) hx rfl (Ef.heq (setH_eq _ _ _) (Ef.ac (Ac.appendD ho hd hk g1 g2 g3 g4 g5 (lk_here _ _ _) (lk_here _ _ _) hBn (evO_put hy hx (by intro hh; cases hh) _) (blt_iff.2 hp) (blt_iff.2 hpb) (by simp) (lenN_ok l2) c2) ⟨rfl, rfl⟩) ⟨rfl, rfl⟩)
              · cases h1
            · cases h1
          · split at h1
            · rename_i cb nn gg hsrc hBn
              injection h1 with h1; simp only [Prod.mk.injEq] at h1; obtain ⟨h1, rfl, rfl⟩ := h1
              subst h1
              obtain ⟨cc, c2⟩ := and_split hc
              have c2 := of_decide_eq_true c2
              have hne : v2 ≠ .d .nsl := by rintro rfl; cases hsrc
              have hlow : ∀ id blk, id ≠ hn → lk hb id = some (some blk) → lk ((hn, some (.rows 0 ez (fun _ => []))) :: hb) id = some (some blk) := fun id blk hi h => by
                rw [lk_there (Ne.symm hi)]; exact h
              refine Ef.virtR (e := ez) (tt := tt) (f := fun _ => []) hx rfl (Ef.pre fun U m a w r => ?_)
              obtain ⟨q1, q2⟩ := srcX_ok (h := ⟨hn + 1, (hn, some (.rows 0 ez (fun _ => []))) :: hb⟩) (evO_put hy hx hne _) hsrc cc hp _ _ U m a w hlow r
              exact Ef.heq (setH_eq _ _ _) (Ef.ac (Ac.appR ho hd hk g1 g2 g3 g4 g5 (lk_here _ _ _) (lk_here _ _ _) (Nat.le_of_ble_eq_true hBn) q2 (fun i hi => by omega) q1 hp c2 hpb) ⟨rfl, rfl⟩) ⟨rfl, rfl⟩
            · cases h1
        · cases h1
      · cases h1
    · cases h1
  · cases h1
/-- A value's cells, as data. -/
def unM (g : Bool) (v : V) : Option (List D) := match g with
  | true => match v with
    | .agg l => unDs l
    | _ => none
  | false => match v with
    | .d c => some [c]
    | _ => none
theorem unM_ok {g : Bool} {v : V} {ds : List D} (h1 : unM g v = some ds) : v = mkD g ds := by
  unfold unM at h1
  cases g
  · simp only at h1
    split at h1
    · injection h1 with h1; subst h1; rfl
    · cases h1
  · simp only at h1
    split at h1
    · rw [unDs_eq] at h1
      show _ = V.agg _
      rw [← unD_ok h1]
    · cases h1
noncomputable def mkMapX (X : Fx) (d t : Nat) (s : Slots) (hn : Nat) (hb : Heap) : Option (Bool × Slots × Hp) :=
  match mapI X.tab t with
  | some (q, g, v0) => match unM g v0 with
    | some zl => some (true, (d, .map hn) :: s, ⟨hn + 1, setH hn (some (.fm q g 0 (fun _ => false) (fun _ => zl))) hb⟩)
    | none => none
  | none => none
noncomputable def putX (X : Fx) (t : Nat) (v1 v2 v3 : V) (s : Slots) (hn : Nat) (hb : Heap) : Option (Bool × Slots × Hp) :=
  match mapI X.tab t with
  | some (q, _, _) => match v1, v2 with
    | .map id, .d (.int q' i) => match sameK q q', lkr hb id with
      | true, some (some (.fm q2 g c has val)) => match sameK q q2, unM g v3 with
        | true, some ds => some (true, s, ⟨hn, setH id (some (.fm q g (selN (has i) c (c + 1)) (fun j => decide (j = i) || has j) (fun j => selL (decide (j = i)) ds (val j)))) hb⟩)
        | _, _ => none
      | _, _ => none
    | _, _ => none
  | none => none
theorem putX_ok {X : Fx} {c : Bool} {v1 v2 v3 : V} {z : Operand} (hX : X.tab = E.tab) (ho : o.op = .mapUpdate t x y z ∨ o.op = .insert t x y z) (hd : o.dst = none) (hx : evO s x = some v1) (hy : evO s y = some v2) (hz : evO s z = some v3) (h1 : putX X t v1 v2 v3 s h.n h.b = some (c, s', h')) : Ef E k B false s h o (fun s2 h2 => s2 = s' ∧ h2 = h') := by
  obtain ⟨hn, hb⟩ := h
  unfold putX at h1
  rw [hX] at h1
  dsimp only at h1
  split at h1
  · rename_i q g v0 hm
    obtain ⟨td, tz, tb, tr, kt, et, kz, kb, kr, ed, ez, eb, er, z0, g1, g2, g3, g4, g5, g6⟩ := mapI_ok hm
    split at h1
    · rw [lkr_eq] at h1
      split at h1
      · rename_i hq hbk
        have := sameK_eq hq
        subst this
        split at h1
        · rename_i hq2 hu
          have := sameK_eq hq2
          subst this
          injection h1 with h1; simp only [Prod.mk.injEq] at h1; obtain ⟨_, rfl, rfl⟩ := h1
          have hu := unM_ok hu
          subst hu
          refine Ef.heq (setH_eq _ _ _) (Ef.ac (Ac.mapPut ho hd g1 g2 g3 hx hbk hy hz (fun j => rfl) (fun j => ?_) ?_) ⟨rfl, rfl⟩) ⟨rfl, rfl⟩
          · rw [selL_eq]
            split
            · rename_i e; rw [decide_eq_true e]; rfl
            · rename_i e; rw [decide_eq_false e]; rfl
          · rw [selN_eq]
            split
            · rename_i e; rw [e]; rfl
            · rename_i e; rw [Bool.not_eq_true] at e; rw [e]; rfl
        · cases h1
      · cases h1
    · cases h1
  · cases h1
/-- What an operation that makes or writes comes to. -/
noncomputable def aX (X : Fx) (B k : Nat) (o : Oper) (s : Slots) (h : Hp) : Option (Bool × Slots × Hp) :=
  match o.op with
  | .box _ x => match o.dst, evX s x with
    | some d, some v => match Nat.blt d k, csOf v with
      | true, some l => some (true, (d, .ptr h.n 0) :: s, ⟨h.n + 1, setH h.n (some (.cells l)) h.b⟩)
      | _, _ => none
    | _, _ => none
  | .alloc t => match o.dst, lkr X.tab t with
    | some d, some ty => match Nat.blt d k, ty.zero with
      | true, some z => match absL z.cells.toList with
        | some l => some (true, (d, .ptr h.n 0) :: s, ⟨h.n + 1, setH h.n (some (.cells l)) h.b⟩)
        | none => none
      | _, _ => none
    | _, _ => none
  | .store t x y => match o.dst, evX s x, evX s y with
    | none, some v1, some v2 => stX X t v1 v2 s h.n h.b
    | _, _, _ => none
  | .buildSlice t len parts => match o.dst with
    | some d => match Nat.blt d k with
      | true => bsX X d len t parts.toList s h.n h.b
      | false => none
    | none => none
  | .makeMap t r => match r, o.dst with
    | none, some d => match Nat.blt d k with
      | true => mkMapX X d t s h.n h.b
      | false => none
    | _, _ => none
  | .mapUpdate t x y z => match o.dst with
    | none => match evX s x, evX s y, evX s z with
      | some v1, some v2, some v3 => putX X t v1 v2 v3 s h.n h.b
      | _, _, _ => none
    | some _ => none
  | .insert t x y z => match o.dst with
    | none => match evX s x, evX s y, evX s z with
      | some v1, some v2, some v3 => putX X t v1 v2 v3 s h.n h.b
      | _, _, _ => none
    | some _ => none
  | .call { callee := .builtin .append, args := ⟨[x, y]⟩, argTypes := ⟨[t, t']⟩ } => match o.dst, evX s x, evX s y with
    | some d, some v1, some v2 => match Nat.blt d k, Nat.beq t t' with
      | true, true => apX X B d t x v1 v2 s h.n h.b
      | _, _ => none
    | _, _, _ => none
  | _ => none
/-- It leaves what was there as it is. -/
def aG : Op → Bool
  | .store _ _ _ => false
  | .mapUpdate _ _ _ _ => false
  | .insert _ _ _ _ => false
  | .call _ => false
  | _ => true
theorem aX_ok {X : Fx} {c : Bool} (hX : X.tab = E.tab) (h1 : aX X B k o s h = some (c, s', h')) (hc : c = true) : Ef E k B (aG o.op) s h o (fun s2 h2 => s2 = s' ∧ h2 = h') := by
  generalize ho : o.op = p at h1
  unfold aX at h1
  rw [ho] at h1
  obtain ⟨hn, hb⟩ := h
  dsimp only at h1
  split at h1
  · split at h1
    · rename_i hd hx
      split at h1
      · rename_i hk hl
        obtain ⟨e1, e2⟩ := csOf_ok hl
        subst e1
        injection h1 with h1; simp only [Prod.mk.injEq] at h1; obtain ⟨_, rfl, rfl⟩ := h1
        exact Ef.heq (setH_eq _ _ _) (Ef.ac (Ac.box ho hd hk (evX_ok hx) e2 rfl) ⟨rfl, rfl⟩) ⟨rfl, rfl⟩
      · cases h1
    · cases h1
  · split at h1
    · rename_i ty hd ht
      rw [lkr_eq, hX] at ht
      obtain ⟨td, tz, tb, tr⟩ := ty
      split at h1
      · rename_i z hk hz
        dsimp only at hz
        split at h1
        · rename_i l hl
          injection h1 with h1; simp only [Prod.mk.injEq] at h1; obtain ⟨_, rfl, rfl⟩ := h1
          exact Ef.heq (setH_eq _ _ _) (Ef.ac (Ac.alloc ho hd hk ht hz hl rfl) ⟨rfl, rfl⟩) ⟨rfl, rfl⟩
        · cases h1
      · cases h1
    · cases h1
  · split at h1
    · rename_i hd hx hy
      exact stX_ok (h := ⟨hn, hb⟩) hX ho hd (evX_ok hx) (evX_ok hy) h1 hc
    · cases h1
  · split at h1
    · rename_i hd
      split at h1
      · rename_i hk
        exact bsX_ok (h := ⟨hn, hb⟩) hX ho hd hk h1
      · cases h1
    · cases h1
  · split at h1
    · rename_i d hd
      split at h1
      · rename_i hk
        unfold mkMapX at h1
        split at h1
        · rename_i q g v0 hm
          split at h1
          · rename_i zl hz
            injection h1 with h1; simp only [Prod.mk.injEq] at h1; obtain ⟨_, rfl, rfl⟩ := h1
            exact Ef.heq (setH_eq _ _ _) (Ef.ac (Ac.makeMap ho hd hk rfl _ _ _) ⟨rfl, rfl⟩) ⟨rfl, rfl⟩
          · cases h1
        · cases h1
      · cases h1
    · cases h1
  · split at h1
    · rename_i hd
      split at h1
      · rename_i hx hy hz
        exact putX_ok (h := ⟨hn, hb⟩) hX (.inl ho) hd (evX_ok hx) (evX_ok hy) (evX_ok hz) h1
      · cases h1
    · cases h1
  · split at h1
    · rename_i hd
      split at h1
      · rename_i hx hy hz
        exact putX_ok (h := ⟨hn, hb⟩) hX (.inr ho) hd (evX_ok hx) (evX_ok hy) (evX_ok hz) h1
      · cases h1
    · cases h1
  · split at h1
    · rename_i hd hx hy
      split at h1
      · rename_i hk ht
        have ht := Nat.eq_of_beq_eq_true ht
        subst ht
        exact apX_ok (h := ⟨hn, hb⟩) hX ho hd hk (evX_ok hx) (evX_ok hy) h1 hc
      · cases h1
    · cases h1
  · cases h1
end
end Go.Proofs.Ythkoinngmcpjgaa

/-
  The reckoner: conditions, calls, one operation of any kind. Conditions: none.
-/
namespace Go.Proofs.Ythkoinngmcpjgaa
open Go.RowKit

/-- What must hold. `same`: two ways' outcomes are the same. -/
inductive Ob where
  | b (c : Bool)
  | p (P : Prop)
  | br (c : Bool) (x y : List Ob)
  | same (s1 s2 : Slots) (h1 h2 : Option Hp)
mutual
def Ob.all : Ob → Prop
  | .b c => c = true
  | .p P => P
  | .br c x y => (c = true → obsL x) ∧ (c = false → obsL y)
  | .same s1 s2 h1 h2 => s1 = s2 ∧ h1 = h2
def obsL : List Ob → Prop
  | [] => True
  | o :: r => o.all ∧ obsL r
end
mutual
/-- The same, as it is shown: without what is the same. -/
def Ob.vc : Ob → Prop → Prop
  | .b c, R => cond c R False
  | .p P, R => P ∧ R
  | .br c x y, R => (cond c (vcL x True) (vcL y True)) ∧ R
  | .same _ _ _ _, R => R
def vcL : List Ob → Prop → Prop
  | [], R => R
  | o :: r, R => o.vc (vcL r R)
end
abbrev Sm := Slots × Option Hp
mutual
/-- What must be the same: left (false), right (true). -/
def Ob.sm (q : Bool) : Ob → List Sm
  | .b _ => []
  | .p _ => []
  | .br _ x y => smL q x ++ smL q y
  | .same s1 s2 h1 h2 => [cond q (s2, h2) (s1, h1)]
def smL (q : Bool) : List Ob → List Sm
  | [] => []
  | o :: r => o.sm q ++ smL q r
end
mutual
theorem Ob.sm_len : ∀ o : Ob, (o.sm false).length = (o.sm true).length
  | .b _ => by simp [Ob.sm]
  | .p _ => by simp [Ob.sm]
  | .br _ x y => by simp only [Ob.sm, List.length_append, smL_len x, smL_len y]
  | .same .. => by simp [Ob.sm]
theorem smL_len : ∀ l : List Ob, (smL false l).length = (smL true l).length
  | [] => by simp [smL]
  | o :: r => by simp only [smL, List.length_append, Ob.sm_len o, smL_len r]
end
mutual
theorem Ob.vc_ok : ∀ (o : Ob) (R : Prop), o.sm false = o.sm true → o.vc R → o.all ∧ R
  | .b c, R, _, h => by
    unfold Ob.vc at h
    unfold Ob.all
    cases c
    · exact False.elim h
    · exact ⟨rfl, h⟩
  | .p P, R, _, h => by unfold Ob.vc at h; unfold Ob.all; exact h
  | .br c x y, R, hs, h => by
    unfold Ob.vc at h
    unfold Ob.all
    simp only [Ob.sm] at hs
    obtain ⟨hs1, hs2⟩ := List.append_inj hs (smL_len x)
    obtain ⟨h1, h2⟩ := h
    refine ⟨⟨fun e => ?_, fun e => ?_⟩, h2⟩
    · subst e; exact (vcL_ok x True hs1 h1).1
    · subst e; exact (vcL_ok y True hs2 h1).1
  | .same s1 s2 h1 h2, R, hs, h => by
    unfold Ob.vc at h
    unfold Ob.all
    simp only [Ob.sm, cond_true, cond_false, List.cons.injEq, Prod.mk.injEq, and_true] at hs
    exact ⟨hs, h⟩
theorem vcL_ok : ∀ (l : List Ob) (R : Prop), smL false l = smL true l → vcL l R → obsL l ∧ R
  | [], R, _, h => ⟨by unfold obsL; trivial, by unfold vcL at h; exact h⟩
  | o :: r, R, hs, h => by
    unfold vcL at h
    simp only [smL] at hs
    obtain ⟨hs1, hs2⟩ := List.append_inj hs (Ob.sm_len o)
    obtain ⟨h1, h2⟩ := Ob.vc_ok o _ hs1 h
    obtain ⟨h3, h4⟩ := vcL_ok r R hs2 h2
    exact ⟨by unfold obsL; exact ⟨h1, h3⟩, h4⟩
end
theorem obsL_cons {o : Ob} {r : List Ob} (h : obsL (o :: r)) : o.all ∧ obsL r := by unfold obsL at h; exact h
theorem obsL_b {c : Bool} {r : List Ob} (h : obsL (.b c :: r)) : c = true ∧ obsL r := by
  obtain ⟨h1, h2⟩ := obsL_cons h; unfold Ob.all at h1; exact ⟨h1, h2⟩
theorem obsL_app {l r : List Ob} (h : obsL (l ++ r)) : obsL l ∧ obsL r := by
  induction l with
  | nil => exact ⟨by unfold obsL; trivial, h⟩
  | cons o l ih =>
    obtain ⟨h1, h2⟩ := obsL_cons h
    obtain ⟨h3, h4⟩ := ih h2
    exact ⟨by unfold obsL; exact ⟨h1, h3⟩, h4⟩
theorem obsL_br {c : Bool} {x y r : List Ob} (h : obsL (.br c x y :: r)) : (c = true → obsL x) ∧ (c = false → obsL y) ∧ obsL r := by
  obtain ⟨h1, h2⟩ := obsL_cons h; unfold Ob.all at h1; exact ⟨h1.1, h1.2, h2⟩

section
variable {E : Env} {k B : Nat} {s s' : Slots} {h h' : Hp} {Q Q' : Post} {U : Nat → Prop} {m : Nat → Option Nat} {a : Act} {w w' : World} {o : Oper} {v : V} {d n : Nat} {t u e : TypeId} {td ed : TypeDesc} {tz tb ez eb : Nat} {tr er : Option Value} {x y : Operand} {ρ g : Bool} {ops : Array Oper} {rest : List Oper} {K K' : Slots → Hp → Prop}

theorem VLe.trans' {v1 v2 : V} (h1 : BLe h v v1) (h2 : VLe v1 v2) : BLe h v v2 := fun U m w r hH hv => h2 _ _ _ _ _ (h1 U m w r hH hv)
/-- Rows and variables at hand, as data. -/
noncomputable def lend1 (b : Heap) (v : V) : Bool × V :=
  match v with
  | .sl e id off n => match lkr b id with
    | some (some (.rows k e' f)) => match Nat.beq e e', off with
      | true, 0 => (decide (n ≤ k), .d (.rows n e f))
      | _, _ => (true, v)
    | some (some (.dat cs)) => match dropN off cs with
      | some r => match takeN (n * e) r with
        | some l => (true, .d (.lst n l))
        | none => (true, v)
      | none => (true, v)
    | some (some (.cells cs)) => match dropN off cs with
      | some r => match takeN (n * e) r with
        | some l => match unDs l with
          | some ds => (true, .d (.lst n ds))
          | none => (true, v)
        | none => (true, v)
      | none => (true, v)
    | _ => (true, v)
  | .ptr id off => match lkr b id with
    | some (some (.cells cs)) => match dropN off cs with
      | some r => match unDs r with
        | some ds => (true, .d (.lptr ds))
        | none => (true, v)
      | none => (true, v)
    | _ => (true, v)
  | _ => (true, v)
theorem lend1_ok {c : Bool} {v' : V} (h1 : lend1 h.b v = (c, v')) (hc : c = true) : BLe h v v' := by
  have refl : ∀ {c : Bool} {v' : V}, (true, v) = (c, v') → BLe h v v' := fun e => by
    simp only [Prod.mk.injEq] at e; obtain ⟨_, rfl⟩ := e; exact .le (.refl _)
  unfold lend1 at h1
  split at h1
  · rw [lkr_eq] at h1
    split at h1
    · rename_i hb
      split at h1
      · rename_i he
        have he := Nat.eq_of_beq_eq_true he
        subst he
        simp only [Prod.mk.injEq] at h1; obtain ⟨h1, rfl⟩ := h1
        subst h1
        have := BLe.rowR (h := h) (o := 0) hb (Nat.le_trans (Nat.le_of_eq (Nat.zero_add _)) (of_decide_eq_true hc))
        simpa using this
      · exact refl h1
    · rename_i hb
      split at h1
      · rename_i r hr
        split at h1
        · rename_i l hl
          simp only [Prod.mk.injEq] at h1; obtain ⟨_, rfl⟩ := h1
          obtain ⟨e1, _⟩ := dropN_ok hr
          obtain ⟨e2, e3⟩ := takeN_ok hl
          exact .row hb (by rw [e1]; exact e2) e3
        · exact refl h1
      · exact refl h1
    · rename_i hb
      split at h1
      · rename_i r hr
        split at h1
        · rename_i l hl
          split at h1
          · rename_i ds hds
            rw [unDs_eq] at hds
            simp only [Prod.mk.injEq] at h1; obtain ⟨_, rfl⟩ := h1
            obtain ⟨e1, _⟩ := dropN_ok hr
            obtain ⟨e2, e3⟩ := takeN_ok hl
            have e4 := unD_ok hds
            exact .rowC hb (by rw [e1, e2]; exact hds) (by rw [← e3, e4, List.length_map])
          · exact refl h1
        · exact refl h1
      · exact refl h1
    · exact refl h1
  · rw [lkr_eq] at h1
    split at h1
    · rename_i hb
      split at h1
      · rename_i r hr
        split at h1
        · rename_i ds hds
          rw [unDs_eq] at hds
          simp only [Prod.mk.injEq] at h1; obtain ⟨_, rfl⟩ := h1
          obtain ⟨e1, _⟩ := dropN_ok hr
          exact .var hb (by rw [e1]; exact hds)
        · exact refl h1
      · exact refl h1
    · exact refl h1
  · exact refl h1
/-- Lent, cell by cell. -/
structure BLs (h : Hp) (l l' : List V) : Prop where
  len : l.length = l'.length
  at_ : ∀ (j : Nat) (x x' : V), l[j]? = some x → l'[j]? = some x' → BLe h x x'
theorem BLe.agg {l l' : List V} (g : BLs h l l') : BLe h (.agg l) (.agg l') := fun U m w r hH hv => by
  cases hv with | agg hl hv =>
  refine .agg (by rw [← g.len]; exact hl) (fun j c v h1 h2 => ?_)
  have hj : j < l.length := by rw [g.len]; exact (List.getElem?_eq_some_iff.1 h1).1
  exact g.at_ j _ _ (List.getElem?_eq_getElem hj) h1 U m w v hH (hv j _ v (List.getElem?_eq_getElem hj) h2)
theorem BLs.row {l l' : List V} (g : BLs h l l') {U : Nat → Prop} {m : Nat → Option Nat} {w : World} {vs : Array Value} (hH : HR U m h.n h.b w) (hl : l.length = vs.size) (hv : ∀ (j : Nat) (x : V) (v : Value), l[j]? = some x → vs[j]? = some v → VR U m h.n w x v) : l'.length = vs.size ∧ ∀ (j : Nat) (x : V) (v : Value), l'[j]? = some x → vs[j]? = some v → VR (lent U m h.b) m h.n w x v :=
  ⟨by rw [← g.len]; exact hl, fun j x v h1 h2 => by
    have hj : j < l.length := by rw [g.len]; exact (List.getElem?_eq_some_iff.1 h1).1
    exact g.at_ j _ _ (List.getElem?_eq_getElem hj) h1 U m w v hH (hv j _ v (List.getElem?_eq_getElem hj) h2)⟩
theorem BLe.fn {f : FuncId} {a a' c c' : List V} (g1 : BLs h a a') (g2 : BLs h c c') : BLe h (.fn f a c) (.fn f a' c') := fun U m w r hH hv => by
  cases hv with | fn la lc ha hc =>
  obtain ⟨e1, e2⟩ := g1.row hH la ha
  obtain ⟨e3, e4⟩ := g2.row hH lc hc
  exact .fn e1 e3 e2 e4
noncomputable def lendL1 (b : Heap) : List V → Bool × List V :=
  List.rec (true, []) (fun v _ ih => match lend1 b v with | (c, v') => match ih with | (c', l) => (c && c', v' :: l))
theorem lendL1_ok : ∀ {l l' : List V} {c : Bool}, lendL1 h.b l = (c, l') → c = true → BLs h l l'
  | [], l', c, h1, hc => by
    have e : (true, ([] : List V)) = (c, l') := h1
    simp only [Prod.mk.injEq] at e; obtain ⟨_, rfl⟩ := e
    exact ⟨rfl, fun j x x' h => by simp at h⟩
  | v :: r, l', c, h1, hc => by
    have e : (match lend1 h.b v with | (c, v') => match lendL1 h.b r with | (c', l) => (c && c', v' :: l)) = (c, l') := h1
    generalize g1 : lend1 h.b v = p1 at e
    generalize g2 : lendL1 h.b r = p2 at e
    obtain ⟨c1, v1⟩ := p1
    obtain ⟨c2, l2⟩ := p2
    simp only [Prod.mk.injEq] at e; obtain ⟨e, rfl⟩ := e
    subst e
    obtain ⟨hc1, hc2⟩ := and_split hc
    have ih := lendL1_ok g2 hc2
    refine ⟨by simp [ih.len], fun j x x' q1 q2 => ?_⟩
    cases j with
    | zero => simp at q1 q2; subst q1; subst q2; exact lend1_ok g1 hc1
    | succ j => exact ih.at_ j x x' (by simpa using q1) (by simpa using q2)
/-- Arguments, lent: a struct's cells too. -/
noncomputable def lend2 (b : Heap) (v : V) : Bool × V :=
  match v with
  | .agg cs => match lendL1 b cs with | (c, l) => (c, .agg l)
  | .fn f a cs => match lendL1 b a, lendL1 b cs with | (c1, l1), (c2, l2) => (c1 && c2, .fn f l1 l2)
  | v => lend1 b v
theorem lend2_ok {c : Bool} {v' : V} (h1 : lend2 h.b v = (c, v')) (hc : c = true) : BLe h v v' := by
  unfold lend2 at h1
  split at h1
  · rename_i cs
    generalize g1 : lendL1 h.b cs = p1 at h1
    obtain ⟨c1, l1⟩ := p1
    simp only [Prod.mk.injEq] at h1; obtain ⟨e, rfl⟩ := h1
    subst e
    exact .agg (lendL1_ok g1 hc)
  · rename_i f a cs
    generalize g1 : lendL1 h.b a = p1 at h1
    generalize g2 : lendL1 h.b cs = p2 at h1
    obtain ⟨c1, l1⟩ := p1
    obtain ⟨c2, l2⟩ := p2
    simp only [Prod.mk.injEq] at h1; obtain ⟨e, rfl⟩ := h1
    subst e
    obtain ⟨hc1, hc2⟩ := and_split hc
    exact .fn (lendL1_ok g1 hc1) (lendL1_ok g2 hc2)
  · exact lend1_ok h1 hc
noncomputable def lendL (b : Heap) : List V → Bool × List V :=
  List.rec (true, []) (fun v _ ih => match lend2 b v with | (c, v') => match ih with | (c', l) => (c && c', v' :: l))
theorem lendL_ok : ∀ {l l' : List V} {c : Bool}, lendL h.b l = (c, l') → c = true → BL h l l'
  | [], l', c, h1, hc => by
    have e : (true, ([] : List V)) = (c, l') := h1
    simp only [Prod.mk.injEq] at e; obtain ⟨_, rfl⟩ := e
    exact .nil
  | v :: r, l', c, h1, hc => by
    have e : (match lend2 h.b v with | (c, v') => match lendL h.b r with | (c', l) => (c && c', v' :: l)) = (c, l') := h1
    generalize g1 : lend2 h.b v = p1 at e
    generalize g2 : lendL h.b r = p2 at e
    obtain ⟨c1, v1⟩ := p1
    obtain ⟨c2, l2⟩ := p2
    simp only [Prod.mk.injEq] at e; obtain ⟨e, rfl⟩ := e
    subst e
    obtain ⟨hc1, hc2⟩ := and_split hc
    exact .cons (lend2_ok g1 hc1) (lendL_ok g2 hc2)

/-- What is known of the functions that are called: P: of pure ones; C: of any. -/
structure Cs where
  P : FuncId → List V → Option (List Ob × V)
  C : FuncId → List V → Hp → Option (List Ob × V × Hp)
structure CsOk (E : Env) (c : Cs) : Prop where
  P : ∀ f args l r, c.P f args = some (l, r) → obsL l → Enters E f ∧ Fn E f args r
  C : ∀ f args h l r h', c.C f args h = some (l, r, h') → obsL l → Enters E f ∧ Call E f args h (fun r' h'' => r' = r ∧ h'' = h')
theorem Fn.pures {f : FuncId} {args : List V} {r : V} (c : Fn E f args r) : pureL args = true := c.2.1
/-- A call: what must hold, what it comes to, and the blocks, if they are others. gi: what was there must stay as it is. -/
noncomputable def callC (c : Cs) (gi : Bool) (f : FuncId) (vs : List V) (h : Hp) : Option (List Ob × V × Option Hp) :=
  match gi with
  | true => none
  | false => match c.C f vs h with
    | some (l, r, h') => some (l, r, some h')
    | none => none
noncomputable def callX (c : Cs) (gi : Bool) (f : FuncId) (vs : List V) (h : Hp) : Option (List Ob × V × Option Hp) :=
  match pureL vs with
  | true => match c.P f vs with
    | some (l, r) => some (l, r, none)
    | none => callC c gi f vs h
  | false => match lendL h.b vs with
    | (cb, args) => match c.P f args with
      | some (l, r) => match r.flat with
        | true => some (.b cb :: l, r, none)
        | false => none
      | none => callC c gi f vs h
theorem callC_ok {c : Cs} {gi : Bool} {f : FuncId} {vs : List V} {l : List Ob} {r : V} {hc : Option Hp} (hcs : CsOk E c) (h1 : callC c gi f vs h = some (l, r, hc)) (hl : obsL l) : gi = false ∧ ∃ h', hc = some h' ∧ Enters E f ∧ Call E f vs h (fun r' h'' => r' = r ∧ h'' = h') := by
  unfold callC at h1
  split at h1
  · cases h1
  · split at h1
    · rename_i hp
      injection h1 with h1; simp only [Prod.mk.injEq] at h1; obtain ⟨rfl, rfl, rfl⟩ := h1
      exact ⟨rfl, _, rfl, hcs.C _ _ _ _ _ _ hp hl⟩
    · cases h1
theorem callX_ok {c : Cs} {gi : Bool} {f : FuncId} {xs : Array Operand} {ats : Array TypeId} {vs : List V} {l : List Ob} {r : V} {hn : Option Hp} (hc : CsOk E c) (ho : o.op = .call { callee := .value (.func f), args := xs, argTypes := ats }) (hv : evL s xs.toList = some vs) (hk : dstOk o.dst k = true)
    (h1 : callX c gi f vs h = some (l, r, hn)) (hl : obsL l) : Ef E k B gi s h o (fun s2 h2 => s2 = putR o.dst r s ∧ h2 = hn.getD h) := by
  unfold callX at h1
  split at h1
  · split at h1
    · rename_i hp
      injection h1 with h1; simp only [Prod.mk.injEq] at h1; obtain ⟨rfl, rfl, rfl⟩ := h1
      obtain ⟨g1, g2⟩ := hc.P _ _ _ _ hp hl
      exact (Ef.fn ho g2 g1 hv (AL.refl vs) hk ⟨rfl, rfl⟩).drop (fun _ => rfl)
    · obtain ⟨rfl, h', rfl, g1, g2⟩ := callC_ok hc h1 hl
      exact Ef.call ho g2 g1 hv (AL.refl vs) hk (fun r' h'' ⟨e1, e2⟩ => ⟨by rw [e1], e2⟩)
  · generalize g1 : lendL h.b vs = p1 at h1
    obtain ⟨cb, args⟩ := p1
    dsimp only at h1
    split at h1
    · rename_i hp
      split at h1
      · rename_i hf
        injection h1 with h1; simp only [Prod.mk.injEq] at h1; obtain ⟨rfl, rfl, rfl⟩ := h1
        obtain ⟨hcb, hl⟩ := obsL_b hl
        obtain ⟨g2, g3⟩ := hc.P _ _ _ _ hp hl
        exact (Ef.fnB ho g3 g2 hv (lendL_ok g1 hcb) hf hk ⟨rfl, rfl⟩).drop (fun _ => rfl)
      · cases h1
    · obtain ⟨rfl, h', rfl, g1, g2⟩ := callC_ok hc h1 hl
      exact Ef.call ho g2 g1 hv (AL.refl vs) hk (fun r' h'' ⟨e1, e2⟩ => ⟨by rw [e1], e2⟩)
/-- A call of a function value. -/
noncomputable def dynX (c : Cs) (gi : Bool) (fv : V) (vs : List V) (h : Hp) : Option (List Ob × V × Option Hp) :=
  match fv with
  | .d (.fn f) => match c.P f vs with
    | some (l, r) => some (l, r, none)
    | none => callC c gi f vs h
  | .fn f fi ca => match c.P f (fi ++ vs ++ ca) with
    | some (l, r) => some (l, r, none)
    | none => callC c gi f (fi ++ vs ++ ca) h
  | _ => none
theorem dynX_ok {c : Cs} {gi : Bool} {tt : Nat} {xs : Array Operand} {ats : Array TypeId} {vs : List V} {fv : V} {l : List Ob} {r : V} {hn : Option Hp} (hc : CsOk E c) (ho : o.op = .call { callee := .value (.tmp tt), args := xs, argTypes := ats }) (hf : lk s tt = some fv) (hv : evL s xs.toList = some vs) (hk : dstOk o.dst k = true)
    (h1 : dynX c gi fv vs h = some (l, r, hn)) (hl : obsL l) : Ef E k B gi s h o (fun s2 h2 => s2 = putR o.dst r s ∧ h2 = hn.getD h) := by
  unfold dynX at h1
  split at h1
  · split at h1
    · rename_i hp
      injection h1 with h1; simp only [Prod.mk.injEq] at h1; obtain ⟨rfl, rfl, rfl⟩ := h1
      obtain ⟨g1, g2⟩ := hc.P _ _ _ _ hp hl
      exact (Ef.dynF ho hf g2 g1 hv (AL.refl vs) hk ⟨rfl, rfl⟩).drop (fun _ => rfl)
    · obtain ⟨rfl, h', rfl, g1, g2⟩ := callC_ok hc h1 hl
      exact Ef.dyn ho hf g2 g1 hv (AL.refl vs) hk (fun r' h'' ⟨e1, e2⟩ => ⟨by rw [e1], e2⟩)
  · split at h1
    · rename_i hp
      injection h1 with h1; simp only [Prod.mk.injEq] at h1; obtain ⟨rfl, rfl, rfl⟩ := h1
      obtain ⟨g1, g2⟩ := hc.P _ _ _ _ hp hl
      exact (Ef.dynFC ho hf g2 g1 hv (AL.refl _) hk ⟨rfl, rfl⟩).drop (fun _ => rfl)
    · obtain ⟨rfl, h', rfl, g1, g2⟩ := callC_ok hc h1 hl
      exact Ef.dynC ho hf g2 g1 hv (AL.refl _) hk (fun r' h'' ⟨e1, e2⟩ => ⟨by rw [e1], e2⟩)
  · cases h1
/-- Whether what an operation yields hangs on a condition. -/
noncomputable def condO (X : Fx) (d : Nat) (s : Slots) : Op → Bool
  | .move _ => false
  | .assign _ => false
  | .pick _ _ _ => false
  | .load _ x => match evX s x with
    | some (.el _ _ _ _) => true
    | _ => false
  | .fieldAddr _ _ _ => false
  | .field _ _ _ => false
  | .binOp op _ _ _ _ => match op with
    | .add | .sub | .mul | .quo | .rem | .shl | .shr => true
    | _ => false
  | .unOp op _ _ => match op with
    | .not => false
    | _ => true
  | .extract _ _ => false
  | .convert _ _ _ => memN d X.wr
  | .build _ _ => false
  | .makeFunc _ _ _ => false
  | .nilCheck _ => false
  | .lookup _ _ _ _ => false
  | .call _ => false
  | _ => true
theorem binX_true {tab : List (Nat × Ty)} {eqs : List (Nat × List Kd)} {wr c : Bool} {op : BinOp} {t : Nat} {v1 v2 : V} (ho : op ≠ .add ∧ op ≠ .sub ∧ op ≠ .mul ∧ op ≠ .quo ∧ op ≠ .rem ∧ op ≠ .shl ∧ op ≠ .shr) (h1 : binX tab eqs wr op t v1 v2 = some (c, v)) : c = true := by
  have hE : ∀ {neg : Bool} {x y : V}, binE tab eqs t neg x y = some (c, v) → c = true := fun {neg x y} h => by
    unfold binE at h
    split at h
    · split at h
      · split at h
        · injection h with h; simp only [Prod.mk.injEq] at h; exact h.1.symm
        · cases h
      · cases h
    · split at h
      · injection h with h; simp only [Prod.mk.injEq] at h; exact h.1.symm
      · cases h
    · injection h with h; simp only [Prod.mk.injEq] at h; exact h.1.symm
    · split at h
      · split at h
        · injection h with h; simp only [Prod.mk.injEq] at h; exact h.1.symm
        · cases h
      · split at h
        · split at h
          · injection h with h; simp only [Prod.mk.injEq] at h; exact h.1.symm
          · cases h
        · cases h
      · cases h
  have hI : ∀ {k : IntKind} {i j : Int}, binI wr op k i j = (c, v) → c = true := fun {k i j} h => by
    obtain ⟨o1, o2, o3, o4, o5, o6, o7⟩ := ho
    cases op <;> simp only [binI, Prod.mk.injEq] at h <;> first | exact h.1.symm | contradiction
  unfold binX at h1
  split at h1
  · exact absurd rfl ho.2.2.2.2.2.1
  · exact absurd rfl ho.2.2.2.2.2.2
  · split at h1
    · split at h1
      · split at h1
        · split at h1
          · exact absurd rfl ho.2.2.2.1
          · injection h1 with h1; exact hI h1
        · cases h1
      · cases h1
    · split at h1
      · exact hE h1
      · exact hE h1
      · cases h1
theorem loadX_true {tab : List (Nat × Ty)} {b : Heap} {t : Nat} {u : V} {c : Bool} (hu : ∀ e id i j, u ≠ .el e id i j) (h1 : loadX tab b t u = some (c, v)) : c = true := by
  unfold loadX at h1
  split at h1
  · split at h1
    · split at h1
      · split at h1
        · split at h1
          · split at h1
            · injection h1 with h1; simp only [Prod.mk.injEq] at h1; exact h1.1.symm
            · cases h1
          · cases h1
        · cases h1
      · split at h1
        · split at h1
          · split at h1
            · injection h1 with h1; simp only [Prod.mk.injEq] at h1; exact h1.1.symm
            · cases h1
          · cases h1
        · cases h1
      · cases h1
    · exact absurd rfl (hu _ _ _ _)
    · split at h1
      · split at h1
        · injection h1 with h1; simp only [Prod.mk.injEq] at h1; exact h1.1.symm
        · cases h1
      · cases h1
    · cases h1
  · cases h1
theorem yX_true {X : Fx} {b : Heap} {op : Op} {c : Bool} (hc : condO X d s op = false) (h1 : yX X d s b op = some (c, v)) : c = true := by
  unfold yX at h1
  split at h1
  · split at h1
    · injection h1 with h1; simp only [Prod.mk.injEq] at h1; exact h1.1.symm
    · cases h1
  · split at h1
    · injection h1 with h1; simp only [Prod.mk.injEq] at h1; exact h1.1.symm
    · cases h1
  · split at h1
    · split at h1
      · injection h1 with h1; simp only [Prod.mk.injEq] at h1; exact h1.1.symm
      · cases h1
    · cases h1
  · split at h1
    · rename_i hx
      refine loadX_true (fun e id i j hu => ?_) h1
      subst hu
      simp [condO, hx] at hc
    · cases h1
  · split at h1
    · unfold fieldAddrX at h1
      split at h1
      · split at h1
        · cases h1
        · split at h1
          · injection h1 with h1; simp only [Prod.mk.injEq] at h1; exact h1.1.symm
          · injection h1 with h1; simp only [Prod.mk.injEq] at h1; exact h1.1.symm
          · split at h1
            · injection h1 with h1; simp only [Prod.mk.injEq] at h1; exact h1.1.symm
            · cases h1
          · cases h1
      · cases h1
    · cases h1
  · split at h1
    · unfold fieldX at h1
      split at h1
      · split at h1
        · cases h1
        · split at h1
          · split at h1
            · split at h1
              · split at h1
                · injection h1 with h1; simp only [Prod.mk.injEq] at h1; exact h1.1.symm
                · cases h1
              · cases h1
            · cases h1
          · cases h1
      · cases h1
    · cases h1
  · simp [condO] at hc
  · simp [condO] at hc
  · split at h1
    · rename_i op _ _ _ _ _ _ _ _
      refine binX_true ⟨?_, ?_, ?_, ?_, ?_, ?_, ?_⟩ h1 <;> (rintro rfl; simp [condO] at hc)
    · cases h1
  · split at h1
    · unfold unX at h1
      split at h1
      · injection h1 with h1; simp only [Prod.mk.injEq] at h1; exact h1.1.symm
      · simp [condO] at hc
      · cases h1
    · cases h1
  · split at h1
    · split at h1
      · injection h1 with h1; simp only [Prod.mk.injEq] at h1; exact h1.1.symm
      · cases h1
    · cases h1
  · split at h1
    · unfold convX at h1
      have hw : memN d X.wr = false := hc
      rw [hw] at h1
      split at h1
      · split at h1
        · split at h1
          · injection h1 with h1; simp only [Prod.mk.injEq] at h1; exact h1.1.symm
          · injection h1 with h1; simp only [Prod.mk.injEq] at h1; exact h1.1.symm
        · cases h1
      · cases h1
    · cases h1
  · unfold buildX at h1
    split at h1
    · split at h1
      · split at h1
        · split at h1
          · split at h1
            · split at h1
              · injection h1 with h1; simp only [Prod.mk.injEq] at h1; exact h1.1.symm
              · cases h1
            · cases h1
          · split at h1
            · split at h1
              · injection h1 with h1; simp only [Prod.mk.injEq] at h1; exact h1.1.symm
              · cases h1
            · cases h1
          · cases h1
        · cases h1
      · cases h1
    · cases h1
  · simp [condO] at hc
  · simp [condO] at hc
  · split at h1
    · split at h1
      · injection h1 with h1; simp only [Prod.mk.injEq] at h1; exact h1.1.symm
      · cases h1
    · cases h1
  · split at h1
    · split at h1
      · injection h1 with h1; simp only [Prod.mk.injEq] at h1; exact h1.1.symm
      · cases h1
    · cases h1
  · split at h1
    · unfold lookX at h1
      split at h1
      · split at h1
        · split at h1
          · split at h1
            · injection h1 with h1; simp only [Prod.mk.injEq] at h1; exact h1.1.symm
            · cases h1
          · cases h1
        · split at h1
          · injection h1 with h1; simp only [Prod.mk.injEq] at h1; exact h1.1.symm
          · cases h1
        · cases h1
      · cases h1
    · cases h1
  · split at h1
    · unfold lenX at h1
      split at h1
      · split at h1
        · injection h1 with h1; simp only [Prod.mk.injEq] at h1; exact h1.1.symm
        · injection h1 with h1; simp only [Prod.mk.injEq] at h1; exact h1.1.symm
        · injection h1 with h1; simp only [Prod.mk.injEq] at h1; exact h1.1.symm
        · injection h1 with h1; simp only [Prod.mk.injEq] at h1; exact h1.1.symm
        · split at h1
          · injection h1 with h1; simp only [Prod.mk.injEq] at h1; exact h1.1.symm
          · cases h1
        · cases h1
      · cases h1
    · cases h1
  · split at h1
    · unfold mmX at h1
      split at h1
      · split at h1
        · injection h1 with h1; simp only [Prod.mk.injEq] at h1; exact h1.1.symm
        · cases h1
      · cases h1
    · cases h1
  · split at h1
    · unfold mmX at h1
      split at h1
      · split at h1
        · injection h1 with h1; simp only [Prod.mk.injEq] at h1; exact h1.1.symm
        · cases h1
      · cases h1
    · cases h1
  · cases h1
/-- Whether making or writing hangs on a condition. -/
def condA : Op → Bool
  | .box _ _ => false
  | .makeMap _ _ => false
  | .mapUpdate _ _ _ _ => false
  | .insert _ _ _ _ => false
  | .alloc _ => false
  | .buildSlice _ _ _ => false
  | _ => true
theorem aX_true {X : Fx} {c : Bool} (hc : condA o.op = false) (h1 : aX X B k o s h = some (c, s', h')) : c = true := by
  unfold aX at h1
  split at h1
  · split at h1
    · split at h1
      · injection h1 with h1; simp only [Prod.mk.injEq] at h1; exact h1.1.symm
      · cases h1
    · cases h1
  · split at h1
    · split at h1
      · split at h1
        · injection h1 with h1; simp only [Prod.mk.injEq] at h1; exact h1.1.symm
        · cases h1
      · cases h1
    · cases h1
  · rename_i ho; rw [ho] at hc; cases hc
  · split at h1
    · split at h1
      · unfold bsX at h1
        split at h1
        · split at h1
          · split at h1
            · split at h1
              · split at h1
                · injection h1 with h1; simp only [Prod.mk.injEq] at h1; exact h1.1.symm
                · injection h1 with h1; simp only [Prod.mk.injEq] at h1; exact h1.1.symm
              · cases h1
            · split at h1
              · injection h1 with h1; simp only [Prod.mk.injEq] at h1; exact h1.1.symm
              · cases h1
          · cases h1
        · cases h1
      · cases h1
    · cases h1
  · split at h1
    · split at h1
      · unfold mkMapX at h1
        split at h1
        · split at h1
          · injection h1 with h1; simp only [Prod.mk.injEq] at h1; exact h1.1.symm
          · cases h1
        · cases h1
      · cases h1
    · cases h1
  · split at h1
    · split at h1
      · unfold putX at h1
        split at h1
        · split at h1
          · split at h1
            · split at h1
              · injection h1 with h1; simp only [Prod.mk.injEq] at h1; exact h1.1.symm
              · cases h1
            · cases h1
          · cases h1
        · cases h1
      · cases h1
    · cases h1
  · split at h1
    · split at h1
      · unfold putX at h1
        split at h1
        · split at h1
          · split at h1
            · split at h1
              · injection h1 with h1; simp only [Prod.mk.injEq] at h1; exact h1.1.symm
              · cases h1
            · cases h1
          · cases h1
        · cases h1
      · cases h1
    · cases h1
  · rename_i ho; rw [ho] at hc; cases hc
  · cases h1
/-- A condition, if there is one. -/
def obC (cond c : Bool) : List Ob := match cond with | true => [.b c] | false => []
/-- One operation of any kind: what must hold, the frame behind it, and the blocks, if they are others. -/
noncomputable def stepX (X : Fx) (c : Cs) (B k : Nat) (gi : Bool) (o : Oper) (s : Slots) (h : Hp) : Option (List Ob × Slots × Option Hp) :=
  match effO o.op with
  | false => match o.dst with
    | some d => match Nat.blt d k, yX X d s h.b o.op with
      | true, some (cb, v) => some (obC (condO X d s o.op) cb, (d, v) :: s, none)
      | _, _ => none
    | none => none
  | true => match o.op with
    | .call { callee := .value fv, args := xs, argTypes := _ } => match dstOk o.dst k, evXs s xs.toList with
      | true, some vs => match fv with
        | .func f => match callX c gi f vs h with
          | some (l, r, h') => some (l, putR o.dst r s, h')
          | none => none
        | .tmp tt => match lkr s tt with
          | some fv => match dynX c gi fv vs h with
            | some (l, r, h') => some (l, putR o.dst r s, h')
            | none => none
          | none => none
        | _ => none
      | _, _ => none
    | op => match !gi || aG op, aX X B k o s h with
      | true, some (cb, s', h') => some (obC (condA op) cb, s', some h')
      | _, _ => none
theorem stepX_ok {X : Fx} {c : Cs} {gi : Bool} {l : List Ob} {hn : Option Hp} (hX : X.tab = E.tab) (he : EqT E X.eqs) (hc : CsOk E c) (h1 : stepX X c B k gi o s h = some (l, s', hn)) (hl : obsL l) : Ef E k B gi s h o (fun s2 h2 => s2 = s' ∧ h2 = hn.getD h) ∧ (effO o.op = false → ∃ d v, o.dst = some d ∧ Nat.blt d k = true ∧ s' = (d, v) :: s ∧ hn = none ∧ Yl (rdO o.op) E k B s h o v) := by
  unfold stepX at h1
  split at h1
  · split at h1
    · rename_i d hd
      split at h1
      · rename_i cb v hk hy
        injection h1 with h1; simp only [Prod.mk.injEq] at h1; obtain ⟨rfl, rfl, rfl⟩ := h1
        have hcb : cb = true := by
          cases hco : condO X d s o.op
          · exact yX_true hco hy
          · rw [hco] at hl; exact (obsL_b hl).1
        have y := yX_ok (B := B) (k := k) hX he hy hcb
        exact ⟨(Ef.yl (y.mono) hd hk ⟨rfl, rfl⟩).drop (fun _ => rfl), fun _ => ⟨d, v, hd, hk, rfl, rfl, y⟩⟩
      · cases h1
    · cases h1
  · rename_i heff
    refine ⟨?_, fun e => by rw [heff] at e; cases e⟩
    split at h1
    · rename_i fv xs ats ho
      split at h1
      · rename_i vs hk hv
        rw [evXs_eq] at hv
        split at h1
        · rename_i f
          split at h1
          · rename_i hcall
            injection h1 with h1; simp only [Prod.mk.injEq] at h1; obtain ⟨rfl, rfl, rfl⟩ := h1
            exact callX_ok hc ho hv hk hcall hl
          · cases h1
        · rename_i tt
          rw [lkr_eq] at h1
          split at h1
          · rename_i fv hf
            split at h1
            · rename_i hcall
              injection h1 with h1; simp only [Prod.mk.injEq] at h1; obtain ⟨rfl, rfl, rfl⟩ := h1
              exact dynX_ok hc ho hf hv hk hcall hl
            · cases h1
          · cases h1
        · cases h1
      · cases h1
    · split at h1
      · rename_i cb s2 h2 hg ha
        injection h1 with h1; simp only [Prod.mk.injEq] at h1; obtain ⟨rfl, rfl, rfl⟩ := h1
        have hcb : cb = true := by
          cases hco : condA o.op
          · exact aX_true hco ha
          · rw [hco] at hl; exact (obsL_b hl).1
        exact (aX_ok hX ha hcb).drop (fun e => by subst e; simpa using hg)
      · cases h1
end
end Go.Proofs.Ythkoinngmcpjgaa

/-
  The reckoner: regions, in the text's order, or in one that stands for all. Conditions: none.
-/
namespace Go.Proofs.Ythkoinngmcpjgaa
open Go.RowKit

section
variable {E : Env} {k B : Nat} {s s' : Slots} {h h' : Hp} {Q Q' : Post} {U : Nat → Prop} {m : Nat → Option Nat} {a : Act} {w w' : World} {o : Oper} {v : V} {d n : Nat} {ops : Array Oper} {rest : List Oper} {K K' : Slots → Hp → Prop}

/-- Of a block less is known. -/
def BkLe (x y : Blk) : Prop := ∀ (U : Nat → Prop) (m : Nat → Option Nat) (n : Nat) (w : World) (mx : Option Nat), BR U m n w mx x → BR U m n w mx y
theorem BkLe.refl (x : Blk) : BkLe x x := fun _ _ _ _ _ h => h
theorem BkLe.cells {l l' : List V} (h : LLe l l') : BkLe (.cells l) (.cells l') := fun U m n w mx k => by
  cases k with
  | cells k =>
    obtain ⟨arr, t, h1, h2, h3⟩ := k
    exact .cells ⟨arr, t, h1, by rw [← h.1]; exact h2, fun j c v g1 g2 => by
      obtain ⟨x, g3, g4⟩ := h.get g1
      exact g4 _ _ _ _ _ (h3 j x v g3 g2)⟩
  | cells0 =>
    have : l' = [] := List.eq_nil_of_length_eq_zero h.1.symm
    subst this; exact .cells0
/-- Of blocks less is known, or fewer are at hand. -/
def HLe (h h' : Hp) : Prop := h.n ≤ h'.n ∧ ∀ i y, lk h'.b i = some (some y) → ∃ x, lk h.b i = some (some x) ∧ BkLe x y
theorem HLe.refl (h : Hp) : HLe h h := ⟨Nat.le_refl _, fun i y hy => ⟨y, hy, .refl _⟩⟩
theorem SR.leH (r : SR k B U m s h a w) (l : HLe h h') : SR k B U m s h' a w ∧ Stp B U m h.n h.b w U m h'.n h'.b w := by
  obtain ⟨hn, hb⟩ := l
  refine ⟨⟨fun t v hv => ?_, r.size, r.defers, ⟨fun i y hy => ?_, fun i y x hy hx => ?_, fun i i' y y' x h1 h2 h3 h4 => ?_, r.heap.ulow⟩, Nat.le_trans r.base hn⟩, { Stp.refl B U m h.n h.b w with hn := hn, own := fun x hx ⟨i, y, h1, h2⟩ => ?_ }⟩
  · obtain ⟨x, h1, h2⟩ := r.slots t v hv
    exact ⟨x, h1, h2.mono (fun _ h => h) (fun _ _ => rfl) (fun _ _ h => h) hn (fun _ _ => rfl)⟩
  · obtain ⟨x, h1, h2⟩ := hb i y hy
    obtain ⟨g1, g2⟩ := r.heap.live i x h1
    exact ⟨Nat.lt_of_lt_of_le g1 hn, (h2 _ _ _ _ _ g2).mono (fun _ h => h) (fun _ _ => rfl) (fun _ _ h => h) hn (fun _ _ => rfl) (fun _ _ => rfl)⟩
  · obtain ⟨z, h1, _⟩ := hb i y hy
    exact r.heap.ok i z x h1 hx
  · obtain ⟨z, g1, _⟩ := hb i y h1
    obtain ⟨z', g2, _⟩ := hb i' y' h2
    exact r.heap.inj i i' z z' x g1 g2 h3 h4
  · obtain ⟨z, g1, _⟩ := hb i y h1
    exact ⟨i, z, g1, h2⟩
/-- Of a frame less is known, slot by slot. -/
def SLe (s s' : Slots) : Prop := ∀ t v, lk s' t = some v → ∃ u, lk s t = some u ∧ VLe u v
theorem SLe.refl (s : Slots) : SLe s s := fun _ v h => ⟨v, h, .refl v⟩
theorem SLe.trans {s1 s2 s3 : Slots} (h : SLe s1 s2) (k : SLe s2 s3) : SLe s1 s3 := fun t v hv => by
  obtain ⟨u, h1, h2⟩ := k t v hv
  obtain ⟨z, h3, h4⟩ := h t u h1
  exact ⟨z, h3, h4.trans h2⟩
theorem SLe.of (h : Le s s') : SLe s s' := fun _ _ hv => h _ (lk_mem hv)
theorem SLe.known {dj : Nat} {b c : Bool} (hb : lk s dj = some (vb b)) (he : b = c) : SLe s ((dj, vb c) :: s) := fun t v hv => by
  rw [lk_cons] at hv
  split at hv
  · rename_i e
    subst e; injection hv with hv; subst hv; subst he
    exact ⟨_, hb, .refl _⟩
  · exact ⟨v, hv, .refl v⟩
theorem SR.sle (hs : SR k B U m s h a w) (hl : SLe s s') : SR k B U m s' h a w where
  slots := fun t v hv => by
    obtain ⟨u, h1, h2⟩ := hl t v hv
    obtain ⟨r, h3, h4⟩ := hs.slots t u h1
    exact ⟨r, h3, h4.le h2⟩
  size := hs.size
  defers := hs.defers
  heap := hs.heap
  base := hs.base
/-- A state of which less is known. -/
theorem TO.leS {l : List Oper} (t : TO E k B ops l s' h' Q) (hs : SLe s s') (hh : HLe h h') : TO E k B ops l s h Q := fun U m a w r => by
  obtain ⟨r1, st⟩ := (r.sle hs).leH hh
  exact RP.step' st (t U m a w r1)
theorem TA.leS {g : Nat → Bool} {n : Nat} {listed : Array Bool} (t : TA E k B ops g n listed s' h' Q) (hs : SLe s s') (hh : HLe h h') : TA E k B ops g n listed s h Q := fun U m a w r => by
  obtain ⟨r1, st⟩ := (r.sle hs).leH hh
  exact wpAnyK_mono (fun e a2 w2 q => RP_trans st q) _ _ _ _ (t U m a w r1)
theorem T.leS {c : Code} (t : T E k B c s' h' Q) (hs : SLe s s') (hh : HLe h h') : T E k B c s h Q := fun U m a w r => by
  obtain ⟨r1, st⟩ := (r.sle hs).leH hh
  exact wp_mono (t U m a w r1) fun e a2 w2 q => RP_trans st q
/-- One whose guard is shut, the one operation that may come. -/
theorem TA.shutE {g : Nat → Bool} {n : Nat} {listed : Array Bool} (i : Nat) (hi : ops[i]? = some o) (hw : Wants s ops o false) (hd : o.dst = some d) (hk : Nat.blt d k = true) (hr : Region.ready .any ops listed = [i]) (t : TA E k B ops g n (listed.setIfInBounds i true) ((d, .un) :: s) h Q) : TA E k B ops g (n + 1) listed s h Q := fun U m a w r => by
  refine ⟨(fun e => by rw [hr] at e; cases e), fun j hj => ?_⟩
  rw [hr] at hj
  simp only [List.mem_singleton] at hj
  subst hj
  unfold wpOp
  simp only [hi, r.wants hw]
  rw [if_neg (by simp), hd]
  exact ⟨fun _ => .refl w, t U m _ w (r.put hk (.un _))⟩
/-- One of two blocks. -/
noncomputable def selB (b : Bool) (x y : Blk) : Option Blk :=
  match x, y with
  | .cells l, .cells l' => some (.cells (selVs b l l'))
  | .rows n e f, .rows n' e' f' => match Nat.beq e e' with
    | true => some (.rows (selN b n n') e (fun i => selL b (f i) (f' i)))
    | false => none
  | .dat l, .dat l' => some (.dat (selL b l l'))
  | _, _ => none
theorem selB_le {b : Bool} {x y z : Blk} (h : selB b x y = some z) : BkLe (cond b x y) z := by
  unfold selB at h
  split at h
  · injection h with h; subst h
    rename_i l l'
    have e : (cond b (Blk.cells l) (Blk.cells l')) = .cells (cond b l l') := by cases b <;> rfl
    rw [e]; exact .cells (selVs_le b l l')
  · split at h
    · rename_i he
      have he := Nat.eq_of_beq_eq_true he
      subst he
      injection h with h; subst h
      simp only [selL_eq, selN_eq]
      cases b <;> exact .refl _
    · cases h
  · injection h with h; subst h
    rw [selL_eq]
    cases b <;> exact .refl _
  · cases h
/-- One of two rows of blocks. -/
noncomputable def selH (b : Bool) (h1 h2 : Hp) (ids : Heap) : Hp :=
  ⟨cond (Nat.ble h1.n h2.n) h2.n h1.n, List.rec [] (fun p _ ih => match lkr h1.b p.1 with
    | some (some x) => (match lkr h2.b p.1 with
      | some (some y) => (match selB b x y with
        | some z => (p.1, some z) :: ih
        | none => ih)
      | _ => ih)
    | _ => ih) ids⟩
theorem selH_mem {b : Bool} {h1 h2 : Hp} {ids : Heap} {i : Nat} {z : Blk} (hz : lk (selH b h1 h2 ids).b i = some (some z)) : ∃ x y, lk h1.b i = some (some x) ∧ lk h2.b i = some (some y) ∧ selB b x y = some z := by
  induction ids with
  | nil => simp [selH, lk] at hz
  | cons p r ih =>
    have e : (selH b h1 h2 (p :: r)).b = (match lkr h1.b p.1 with
      | some (some x) => (match lkr h2.b p.1 with
        | some (some y) => (match selB b x y with
          | some z => (p.1, some z) :: (selH b h1 h2 r).b
          | none => (selH b h1 h2 r).b)
        | _ => (selH b h1 h2 r).b)
      | _ => (selH b h1 h2 r).b) := rfl
    rw [e] at hz
    simp only [lkr_eq] at hz
    split at hz
    · rename_i x hx
      split at hz
      · rename_i y hy
        split at hz
        · rename_i z' hz'
          rw [lk_cons] at hz
          split at hz
          · rename_i he
            subst he
            injection hz with hz; injection hz with hz; subst hz
            exact ⟨x, y, hx, hy, hz'⟩
          · exact ih hz
        · exact ih hz
      · exact ih hz
    · exact ih hz
theorem selH_n1 (b : Bool) (h1 h2 : Hp) (ids : Heap) : h1.n ≤ (selH b h1 h2 ids).n ∧ h2.n ≤ (selH b h1 h2 ids).n := by
  show h1.n ≤ cond (Nat.ble h1.n h2.n) h2.n h1.n ∧ h2.n ≤ cond (Nat.ble h1.n h2.n) h2.n h1.n
  cases hb : Nat.ble h1.n h2.n
  · refine ⟨Nat.le_refl _, ?_⟩
    rcases Nat.lt_or_ge h2.n h1.n with h | h
    · exact Nat.le_of_lt h
    · rw [Nat.ble_eq_true_of_le h] at hb; cases hb
  · exact ⟨Nat.le_of_ble_eq_true hb, Nat.le_refl _⟩
theorem selH_t {b : Bool} (hb : b = true) (h1 h2 : Hp) (ids : Heap) : HLe h1 (selH b h1 h2 ids) :=
  ⟨(selH_n1 b h1 h2 ids).1, fun i z hz => by
    obtain ⟨x, y, e1, e2, e3⟩ := selH_mem hz
    have := selB_le e3
    subst hb
    exact ⟨x, e1, this⟩⟩
theorem selH_f {b : Bool} (hb : b = false) (h1 h2 : Hp) (ids : Heap) : HLe h2 (selH b h1 h2 ids) :=
  ⟨(selH_n1 b h1 h2 ids).2, fun i z hz => by
    obtain ⟨x, y, e1, e2, e3⟩ := selH_mem hz
    have := selB_le e3
    subst hb
    exact ⟨y, e2, this⟩⟩

/-- What a region comes to: what must hold, the frame, the blocks, if they are others, whose truth values are plain; or where it stops. -/
inductive Rn where
  | ok (l : List Ob) (s : Slots) (h : Option Hp) (kn : List Nat)
  | bad (i : Nat)
noncomputable def appO (l : List Ob) (r : List Ob) : List Ob := List.rec r (fun x _ ih => x :: ih) l
theorem appO_eq (l r : List Ob) : appO l r = l ++ r := by
  induction l with
  | nil => rfl
  | cons x l ih => show x :: appO l r = _; rw [ih]; rfl
noncomputable def orH (a b : Option Hp) : Option Hp := match b with | some h => some h | none => a
theorem orH_getD (a b : Option Hp) (h : Hp) : (orH a b).getD h = b.getD (a.getD h) := by cases b <;> rfl
noncomputable def Rn.pre (l : List Ob) (h : Option Hp) : Rn → Rn
  | .ok l' s h' kn => .ok (appO l l') s (orH h h') kn
  | .bad i => .bad i
/-- Two ways' conditions. -/
def brO (b : Bool) (l1 l2 : List Ob) : List Ob := match l1 with
  | [] => match l2 with
    | [] => []
    | _ => [.br b l1 l2]
  | _ => [.br b l1 l2]
theorem brO_ok {b : Bool} {l1 l2 : List Ob} (h : obsL (brO b l1 l2)) : (b = true → obsL l1) ∧ (b = false → obsL l2) := by
  unfold brO at h
  split at h
  · split at h
    · exact ⟨fun _ => h, fun _ => h⟩
    · exact ⟨(obsL_br h).1, (obsL_br h).2.1⟩
  · exact ⟨(obsL_br h).1, (obsL_br h).2.1⟩
/-- What an operation assigns. -/
noncomputable def modO (o : Oper) : List Nat :=
  match o.op with
  | .call { callee := .builtin .append, args := ⟨.tmp t :: _⟩, argTypes := _ } => match o.dst with | some d => [d, t] | none => [t]
  | _ => match o.dst with | some d => [d] | none => []
noncomputable def modL (l : List Oper) : List Nat := List.rec [] (fun o _ ih => modO o ++ ih) l
theorem memN_iff {t : Nat} {l : List Nat} : memN t l = true ↔ t ∈ l := by
  induction l with
  | nil => exact ⟨fun h => (by cases h), fun h => (by simp at h)⟩
  | cons x r ih =>
    have e : memN t (x :: r) = cond (Nat.beq x t) true (memN t r) := rfl
    rw [e, List.mem_cons]
    cases hb : Nat.beq x t
    · rw [cond_false, ih]
      exact ⟨.inr, fun h => h.resolve_left (fun e => ne_of_beq hb e.symm)⟩
    · exact ⟨fun _ => .inl (Nat.eq_of_beq_eq_true hb).symm, fun _ => rfl⟩
/-- What isn't assigned, and is data, stays. -/
def Kp (ms : List Nat) (s s1 : Slots) : Prop := ∀ t, t ∉ ms → (lk s t = none → lk s1 t = none) ∧ ∀ x, lk s t = some (.d x) → lk s1 t = none ∨ lk s1 t = some (.d x)
theorem Kp.refl (ms : List Nat) (s : Slots) : Kp ms s s := fun _ _ => ⟨fun h => h, fun _ h => .inr h⟩
theorem Kp.trans {ms : List Nat} {s s1 s2 : Slots} (h : Kp ms s s1) (k : Kp ms s1 s2) : Kp ms s s2 := fun t ht => by
  obtain ⟨h1, h2⟩ := h t ht
  obtain ⟨k1, k2⟩ := k t ht
  exact ⟨fun e => k1 (h1 e), fun x e => (h2 x e).elim (fun e => .inl (k1 e)) (fun e => k2 x e)⟩
theorem Kp.mono {ms ms' : List Nat} {s s1 : Slots} (h : Kp ms s s1) (k : ∀ t, t ∈ ms → t ∈ ms') : Kp ms' s s1 := fun t ht => h t (fun e => ht (k t e))
theorem Kp.put {ms : List Nat} {d : Nat} (hd : d ∈ ms) (v : V) (s : Slots) : Kp ms s ((d, v) :: s) := fun t ht => by
  have hne : d ≠ t := fun e => ht (e ▸ hd)
  rw [lk_cons, if_neg hne]
  exact ⟨fun h => h, fun _ h => .inr h⟩
theorem Kp.drop (ms : List Nat) (id : Nat) (s : Slots) : Kp ms s (dropS id s) := fun t _ => by
  unfold dropS
  rw [lk_map]
  refine ⟨fun h => by rw [h]; rfl, fun x h => .inr ?_⟩
  rw [h]; rfl
theorem Kp.trim (ms : List Nat) (s : Slots) (live : List Nat) : Kp ms s (trimS s live) := by
  have key : ∀ t v, lk (trimS s live) t = some v → lk s t = some v := by
    induction live with
    | nil => intro t v h; simp [trimS, lk] at h
    | cons u r ih =>
      intro t v h
      have e : trimS s (u :: r) = (match lk s u with | some v => (u, v) :: trimS s r | none => trimS s r) := rfl
      rw [e] at h
      split at h
      · rename_i w hw
        rw [lk_cons] at h
        split at h
        · rename_i e; subst e; rw [hw]; exact h
        · exact ih t v h
      · exact ih t v h
  intro t _
  refine ⟨fun h => ?_, fun x h => ?_⟩
  · cases e : lk (trimS s live) t with
    | none => rfl
    | some v => rw [key t v e] at h; cases h
  · cases e : lk (trimS s live) t with
    | none => exact .inl rfl
    | some v => rw [key t v e] at h; exact .inr h
noncomputable def keepV (ms : List Nat) (s : Slots) (t : Nat) : Option D := match memN t ms with
  | true => none
  | false => match lkr s t with
    | some (.d x) => some x
    | _ => none
theorem keepV_ok {ms : List Nat} {s : Slots} {t : Nat} {x : D} (h : keepV ms s t = some x) : t ∉ ms ∧ lk s t = some (.d x) := by
  unfold keepV at h
  split at h
  · cases h
  · rename_i hm
    rw [lkr_eq] at h
    split at h
    · rename_i y hy
      injection h with h; subst h
      exact ⟨fun e => (by rw [memN_iff.2 e] at hm; cases hm), hy⟩
    · cases h
/-- The same kind of value, so that one of two is of that kind. -/
def sameD (x y : D) : Bool := match x with
  | .rows _ e _ => match y with
    | .rows _ e' _ => Nat.beq e e'
    | .nsl => true
    | _ => false
  | .lst _ _ => match y with
    | .lst _ _ => true
    | _ => false
  | .nsl => match y with
    | .rows _ _ _ => true
    | .nsl => true
    | _ => false
  | .lptr _ => match y with
    | .lptr _ => true
    | _ => false
  | .nilp => match y with
    | .nilp => true
    | _ => false
  | .bool _ => match y with
    | .bool _ => true
    | _ => false
  | .int k _ => match y with
    | .int k' _ => sameK k k'
    | _ => false
  | .str _ => match y with
    | .str _ => true
    | _ => false
  | _ => false
def sameV (x y : V) : Bool := match x with
  | .d x => match y with
    | .d y => sameD x y
    | _ => false
  | .agg l => match y with
    | .agg l' => Nat.beq l.length l'.length
    | _ => false
  | .tup l => match y with
    | .tup l' => Nat.beq l.length l'.length
    | _ => false
  | .sl e id _ _ => match y with
    | .sl e' id' _ _ => Nat.beq e e' && Nat.beq id id'
    | _ => false
  | .ptr id _ => match y with
    | .ptr id' _ => Nat.beq id id'
    | _ => false
  | .el e id _ _ => match y with
    | .el e' id' _ _ => Nat.beq e e' && Nat.beq id id'
    | _ => false
  | .map id => match y with
    | .map id' => Nat.beq id id'
    | _ => false
  | .fn f _ _ => match y with
    | .fn f' _ _ => Nat.beq f f'
    | _ => false
  | _ => false
noncomputable def selW (b : Bool) (x y : V) : V := match sameV x y with | true => selV b x y | false => .un
theorem selW_t {b : Bool} {x y : V} (h : b = true) : VLe x (selW b x y) := by
  unfold selW; split
  · exact selV_t h
  · exact VLe.un _
theorem selW_f {b : Bool} {x y : V} (h : b = false) : VLe y (selW b x y) := by
  unfold selW; split
  · exact selV_f h
  · exact VLe.un _
/-- One of two frames: what both name, and what stayed. -/
noncomputable def selK (b : Bool) (ms : List Nat) (s s1 s2 : Slots) : List Nat → Slots :=
  List.rec [] (fun t _ ih => match lkr s1 t with | some v1 => (match lkr s2 t with | some v2 => (match keepV ms s t with | some x => (t, .d x) :: ih | none => (t, selW b v1 v2) :: ih) | none => ih) | none => ih)
theorem selK_mem {b : Bool} {ms : List Nat} {s s1 s2 : Slots} {ts : List Nat} {p : Nat × V} (hp : p ∈ selK b ms s s1 s2 ts) : ∃ v1 v2, lk s1 p.1 = some v1 ∧ lk s2 p.1 = some v2 ∧ ((∃ x, keepV ms s p.1 = some x ∧ p.2 = .d x) ∨ (keepV ms s p.1 = none ∧ p.2 = selW b v1 v2)) := by
  induction ts with
  | nil => cases hp
  | cons t r ih =>
    have e : selK b ms s s1 s2 (t :: r) = (match lkr s1 t with | some v1 => (match lkr s2 t with | some v2 => (match keepV ms s t with | some x => (t, .d x) :: selK b ms s s1 s2 r | none => (t, selW b v1 v2) :: selK b ms s s1 s2 r) | none => selK b ms s s1 s2 r) | none => selK b ms s s1 s2 r) := rfl
    rw [e] at hp
    simp only [lkr_eq] at hp
    split at hp
    · rename_i v1 h1
      split at hp
      · rename_i v2 h2
        split at hp
        · rename_i x hx
          rcases List.mem_cons.1 hp with rfl | hp
          · exact ⟨v1, v2, h1, h2, .inl ⟨x, hx, rfl⟩⟩
          · exact ih hp
        · rename_i hx
          rcases List.mem_cons.1 hp with rfl | hp
          · exact ⟨v1, v2, h1, h2, .inr ⟨hx, rfl⟩⟩
          · exact ih hp
      · exact ih hp
    · exact ih hp
theorem selK_le {b : Bool} {ms : List Nat} {s s1 s2 : Slots} (k1 : Kp ms s s1) (k2 : Kp ms s s2) (ts : List Nat) : (b = true → Le s1 (selK b ms s s1 s2 ts)) ∧ (b = false → Le s2 (selK b ms s s1 s2 ts)) := by
  refine ⟨fun hb p hp => ?_, fun hb p hp => ?_⟩
  all_goals
    obtain ⟨v1, v2, h1, h2, h3⟩ := selK_mem hp
    rcases h3 with ⟨x, hx, e⟩ | ⟨_, e⟩
  · obtain ⟨g1, g2⟩ := keepV_ok hx
    rcases (k1 _ g1).2 x g2 with g3 | g3
    · rw [g3] at h1; cases h1
    · exact ⟨_, g3, by rw [e]; exact .refl _⟩
  · exact ⟨_, h1, by rw [e]; exact selW_t hb⟩
  · obtain ⟨g1, g2⟩ := keepV_ok hx
    rcases (k2 _ g1).2 x g2 with g3 | g3
    · rw [g3] at h2; cases h2
    · exact ⟨_, g3, by rw [e]; exact .refl _⟩
  · exact ⟨_, h2, by rw [e]; exact selW_f hb⟩
theorem selK_kp {b : Bool} {ms : List Nat} {s s1 s2 : Slots} (k1 : Kp ms s s1) (ts : List Nat) : Kp ms s (selK b ms s s1 s2 ts) := fun t ht => by
  refine ⟨fun h => ?_, fun x h => ?_⟩
  · cases e : lk (selK b ms s s1 s2 ts) t with
    | none => rfl
    | some v =>
      obtain ⟨v1, _, h1, _⟩ := selK_mem (lk_mem e)
      rw [(k1 t ht).1 h] at h1; cases h1
  · cases e : lk (selK b ms s s1 s2 ts) t with
    | none => exact .inl rfl
    | some v =>
      obtain ⟨v1, v2, h1, h2, h3⟩ := selK_mem (lk_mem e)
      have hk : keepV ms s t = some x := by
        unfold keepV
        cases hm : memN t ms
        · rw [lkr_eq, h]
        · exact absurd (memN_iff.1 hm) ht
      rcases h3 with ⟨y, g1, g2⟩ | ⟨g1, _⟩
      · rw [hk] at g1; injection g1 with g1; subst g1
        exact .inr (by rw [← g2])
      · rw [hk] at g1; cases g1
noncomputable def Rn.mrg (b : Bool) (ms live kn : List Nat) (s : Slots) (h : Hp) (r1 r2 : Rn) : Rn :=
  match r1 with
  | .ok l1 s1 h1 _ => match r2 with
    | .ok l2 s2 h2 _ => match h1, h2 with
      | none, none => .ok (brO b l1 l2) (selK b ms s s1 s2 live) none kn
      | _, _ => .ok (brO b l1 l2) (selK b ms s s1 s2 live) (some (selH b (h1.getD h) (h2.getD h) h.b)) kn
    | .bad i => .bad i
  | .bad i => .bad i
def eqW (b want : Bool) : Bool := match want with | true => b | false => !b
theorem eqW_t {b want : Bool} (h : eqW b want = true) : b = want := by cases b <;> cases want <;> first | rfl | cases h
theorem eqW_f {b want : Bool} (h : eqW b want = false) : b = !want := by cases b <;> cases want <;> first | rfl | cases h
/-- Whether an operand's truth value is plain. -/
noncomputable def knO (kn : List Nat) : Operand → Bool
  | .tmp t => memN t kn
  | .const _ => true
  | _ => false
noncomputable def knX (kn : List Nat) (s : Slots) (o : Oper) : List Nat :=
  match o.dst with
  | some d => match o.op with
    | .move x => cond (knO kn x) (d :: kn) kn
    | .assign x => cond (knO kn x) (d :: kn) kn
    | .unOp _ _ x => cond (knO kn x) (d :: kn) kn
    | .pick c x y => cond (knO kn c) (match evX s c with | some (.d (.bool b)) => cond b (cond (knO kn x) (d :: kn) kn) (cond (knO kn y) (d :: kn) kn) | _ => kn) kn
    | _ => kn
  | none => kn
noncomputable def ySlot (ops : List Oper) (j : Nat) : Option Nat := match getN ops j with | some o => o.dst | none => none
theorem ySlot_eq (ops : List Oper) (j : Nat) : ySlot ops j = yieldSlot ops.toArray j := by
  unfold ySlot yieldSlot
  rw [getN_eq, List.getElem?_toArray]
  cases ops[j]? <;> rfl
/-- Nothing names a block. -/
noncomputable def noS (id : Nat) (s : Slots) : Bool := List.rec true (fun p _ ih => cond (p.2.has id) false ih) s
theorem noS_ok {id : Nat} (h : noS id s = true) : ∀ t v, lk s t = some v → v.has id = false := by
  induction s with
  | nil => intro t v hv; simp [lk] at hv
  | cons p r ih =>
    obtain ⟨i, x⟩ := p
    have h' : cond (x.has id) false (noS id r) = true := h
    cases hx : x.has id
    · rw [hx] at h'
      intro t v hv
      rw [lk_cons] at hv
      split at hv
      · injection hv with hv; subst hv; exact hx
      · exact ih h' t v hv
    · rw [hx] at h'; cases h'
noncomputable def noH (id : Nat) (b : Heap) : Bool := List.rec true (fun p _ ih => match p.2 with | some k => cond (k.has id) false ih | none => ih) b
theorem noH_ok {id : Nat} {b : Heap} (h : noH id b = true) : ∀ i k, lk b i = some (some k) → k.has id = false := by
  induction b with
  | nil => intro t v hv; simp [lk] at hv
  | cons p r ih =>
    obtain ⟨i, x⟩ := p
    cases x with
    | none =>
      intro t v hv
      rw [lk_cons] at hv
      split at hv
      · cases hv
      · exact ih h t v hv
    | some x =>
      have h' : cond (x.has id) false (noH id r) = true := h
      cases hx : x.has id
      · rw [hx] at h'
        intro t v hv
        rw [lk_cons] at hv
        split at hv
        · injection hv with hv; injection hv with hv; subst hv; exact hx
        · exact ih h' t v hv
      · rw [hx] at h'; cases h'
/-- A variable, under a name that was kept for it. -/
noncomputable def allocX (X : Fx) (B k id : Nat) (o : Oper) (s : Slots) (h : Hp) : Option (List Ob × Slots × Option Hp) :=
  match o.op with
  | .alloc t => match o.dst, lkr X.tab t with
    | some d, some ty => match Nat.blt d k, ty.zero with
      | true, some z => match absL z.cells.toList with
        | some l => match Nat.ble B id && Nat.blt id h.n, noS id s && noH id h.b with
          | true, true => some ([], (d, .ptr id 0) :: s, some ⟨h.n, setH id (some (.cells l)) h.b⟩)
          | _, _ => none
        | none => none
      | _, _ => none
    | _, _ => none
  | _ => none
theorem allocX_ok {X : Fx} {id : Nat} {l : List Ob} {hn : Option Hp} (hX : X.tab = E.tab) (h1 : allocX X B k id o s h = some (l, s', hn)) : Ef E k B true s h o (fun s2 h2 => s2 = s' ∧ h2 = hn.getD h) ∧ effO o.op = true := by
  unfold allocX at h1
  split at h1
  · rename_i t ho
    refine ⟨?_, by rw [ho]; rfl⟩
    split at h1
    · rename_i d ty hd ht
      rw [lkr_eq, hX] at ht
      obtain ⟨td, tz, tb, tr⟩ := ty
      split at h1
      · rename_i z hk hz
        dsimp only at hz
        split at h1
        · rename_i lz hl
          split at h1
          · rename_i c1 c2
            obtain ⟨c3, c4⟩ := and_split c1
            obtain ⟨c5, c6⟩ := and_split c2
            injection h1 with h1; simp only [Prod.mk.injEq] at h1; obtain ⟨_, rfl, rfl⟩ := h1
            obtain ⟨hn, hb⟩ := h
            exact Ef.heq (setH_eq _ _ _) (Ef.ac (Ac.allocAt ho hd hk ht hz hl (Nat.le_of_ble_eq_true c3) (blt_iff.1 c4) (noS_ok c5) (fun i bk g _ => noH_ok c6 i bk g)) ⟨rfl, rfl⟩) ⟨rfl, rfl⟩
          · cases h1
        · cases h1
      · cases h1
    · cases h1
  · cases h1
noncomputable def stepA (X : Fx) (c : Cs) (B k : Nat) (gi : Bool) (rid : Option Nat) (o : Oper) (s : Slots) (h : Hp) : Option (List Ob × Slots × Option Hp) :=
  match rid with
  | none => stepX X c B k gi o s h
  | some id => allocX X B k id o s h
theorem stepA_ok {X : Fx} {c : Cs} {gi : Bool} {rid : Option Nat} {l : List Ob} {hn : Option Hp} (hX : X.tab = E.tab) (he : EqT E X.eqs) (hc : CsOk E c) (h1 : stepA X c B k gi rid o s h = some (l, s', hn)) (hl : obsL l) : Ef E k B gi s h o (fun s2 h2 => s2 = s' ∧ h2 = hn.getD h) ∧ (effO o.op = false → ∃ d v, o.dst = some d ∧ Nat.blt d k = true ∧ s' = (d, v) :: s ∧ hn = none ∧ Yl (rdO o.op) E k B s h o v) := by
  cases rid with
  | none => exact stepX_ok hX he hc h1 hl
  | some id =>
    obtain ⟨e1, e2⟩ := allocX_ok (E := E) hX h1
    exact ⟨e1.drop (fun _ => rfl), fun e => by rw [e2] at e; cases e⟩
section
variable {O : Type}
/-- Values are brought to their form ahead of what comes behind: the kernel carries no debts on. -/
noncomputable def frN (n : Nat) (k : Nat → O) : O := Nat.rec (motive := fun _ => O) (k 0) (fun m _ => k (Nat.succ m)) n
theorem frN_eq (n : Nat) (k : Nat → O) : frN n k = k n := by cases n <;> rfl
noncomputable def frK (l : List Nat) : (List Nat → O) → O := List.rec (motive := fun _ => (List Nat → O) → O) (fun k => k []) (fun t _ ih k => ih (fun r => k (t :: r))) l
theorem frK_eq (l : List Nat) : ∀ k : List Nat → O, frK l k = k l := by
  induction l with
  | nil => exact fun k => rfl
  | cons t r ih => exact fun k => ih fun r => k (t :: r)
noncomputable def frD0 (x : D) (k : D → O) : O := match x with
  | .int q n => k (.int q n)
  | .bool b => k (.bool b)
  | .lst n cs => k (.lst n cs)
  | x => k x
theorem frD0_eq (x : D) (k : D → O) : frD0 x k = k x := by cases x <;> rfl
noncomputable def frDs (l : List D) : (List D → O) → O := List.rec (motive := fun _ => (List D → O) → O) (fun k => k []) (fun t _ ih k => frD0 t fun t => ih (fun r => k (t :: r))) l
theorem frDs_eq (l : List D) : ∀ k : List D → O, frDs l k = k l := by
  induction l with
  | nil => exact fun k => rfl
  | cons t r ih =>
    intro k
    show frD0 t (fun t => frDs r fun r => k (t :: r)) = _
    rw [frD0_eq]; exact ih _
noncomputable def frD (x : D) (k : D → O) : O := match x with
  | .int q n => k (.int q n)
  | .bool b => k (.bool b)
  | .lst n cs => frDs cs fun cs => k (.lst n cs)
  | x => k x
theorem frD_eq (x : D) (k : D → O) : frD x k = k x := by cases x <;> first | rfl | exact frDs_eq _ _
noncomputable def frV0 (v : V) (k : V → O) : O := match v with
  | .d x => frD0 x fun x => k (.d x)
  | .ptr id off => frN id fun id => frN off fun off => k (.ptr id off)
  | v => k v
theorem frV0_eq (v : V) (k : V → O) : frV0 v k = k v := by
  cases v with
  | d x => show frD0 x (fun x => k (.d x)) = _; rw [frD0_eq]
  | ptr id off => show frN id (fun id => frN off fun off => k (.ptr id off)) = _; rw [frN_eq, frN_eq]
  | _ => rfl
noncomputable def frVs (l : List V) : (List V → O) → O := List.rec (motive := fun _ => (List V → O) → O) (fun k => k []) (fun t _ ih k => frV0 t fun t => ih (fun r => k (t :: r))) l
theorem frVs_eq (l : List V) : ∀ k : List V → O, frVs l k = k l := by
  induction l with
  | nil => exact fun k => rfl
  | cons t r ih =>
    intro k
    show frV0 t (fun t => frVs r fun r => k (t :: r)) = _
    rw [frV0_eq]; exact ih _
noncomputable def frV (v : V) (k : V → O) : O := match v with
  | .d x => frD x fun x => k (.d x)
  | .ptr id off => frN id fun id => frN off fun off => k (.ptr id off)
  | .sl e id off len => frN id fun id => k (.sl e id off len)
  | .agg l => frVs l fun l => k (.agg l)
  | .tup l => frVs l fun l => k (.tup l)
  | v => k v
theorem frV_eq (v : V) (k : V → O) : frV v k = k v := by
  cases v with
  | d x => show frD x (fun x => k (.d x)) = _; rw [frD_eq]
  | ptr id off => show frN id (fun id => frN off fun off => k (.ptr id off)) = _; rw [frN_eq, frN_eq]
  | sl e id off len => show frN id (fun id => k (.sl e id off len)) = _; rw [frN_eq]
  | agg l => show frVs l (fun l => k (.agg l)) = _; rw [frVs_eq]
  | tup l => show frVs l (fun l => k (.tup l)) = _; rw [frVs_eq]
  | _ => rfl
noncomputable def frS (l : Slots) : (Slots → O) → O := List.rec (motive := fun _ => (Slots → O) → O) (fun k => k []) (fun p _ ih k => match p with | (t, v) => frV v fun v => ih (fun r => k ((t, v) :: r))) l
theorem frS_eq (l : Slots) : ∀ k : Slots → O, frS l k = k l := by
  induction l with
  | nil => exact fun k => rfl
  | cons p r ih =>
    intro k
    obtain ⟨t, v⟩ := p
    show frV v (fun v => frS r fun r => k ((t, v) :: r)) = _
    rw [frV_eq]; exact ih _
noncomputable def frBk (b : Blk) (k : Blk → O) : O := match b with
  | .cells l => frVs l fun l => k (.cells l)
  | b => k b
theorem frBk_eq (b : Blk) (k : Blk → O) : frBk b k = k b := by cases b <;> first | rfl | exact frVs_eq _ _
noncomputable def frB (l : Heap) : (Heap → O) → O := List.rec (motive := fun _ => (Heap → O) → O) (fun k => k []) (fun p _ ih k => match p with
  | (i, none) => frN i fun i => ih (fun r => k ((i, none) :: r))
  | (i, some b) => frN i fun i => frBk b fun b => ih (fun r => k ((i, some b) :: r))) l
theorem frB_eq (l : Heap) : ∀ k : Heap → O, frB l k = k l := by
  induction l with
  | nil => exact fun k => rfl
  | cons p r ih =>
    intro k
    obtain ⟨i, ob⟩ := p
    cases ob with
    | none => show frN i (fun i => frB r fun r => k ((i, none) :: r)) = _; rw [frN_eq]; exact ih _
    | some b => show frN i (fun i => frBk b fun b => frB r fun r => k ((i, some b) :: r)) = _; rw [frN_eq, frBk_eq]; exact ih _
noncomputable def frH (h : Hp) (k : Hp → O) : O := match h with | ⟨n, b⟩ => frN n fun n => frB b fun b => k ⟨n, b⟩
theorem frH_eq (h : Hp) (k : Hp → O) : frH h k = k h := by
  obtain ⟨n, b⟩ := h
  show frN n (fun n => frB b fun b => k ⟨n, b⟩) = _
  rw [frN_eq, frB_eq]
noncomputable def frS1 (l : Slots) (k : Slots → O) : O := match l with
  | [] => k []
  | (t, v) :: r => frV v fun v => k ((t, v) :: r)
theorem frS1_eq (l : Slots) (k : Slots → O) : frS1 l k = k l := by
  match l with
  | [] => rfl
  | (t, v) :: r => exact frV_eq v fun v => k ((t, v) :: r)
end
noncomputable def openR (X : Fx) (c : Cs) (B k : Nat) (gi : Bool) (rid : Option Nat) (o : Oper) (ih : List Nat → Slots → Hp → Rn) (kn : List Nat) (s : Slots) (h : Hp) : Rn :=
  match stepA X c B k gi rid o s h with
  | some (l, s', h') => frS1 s' fun s' => match h' with
    | none => (ih (knX kn s o) s' h).pre l none
    | some h1 => frH h1 fun h1 => (ih (knX kn s o) s' h1).pre l (some h1)
  | none => match o.dst with | some d => .bad d | none => .bad 1000
noncomputable def shutR (k : Nat) (o : Oper) (ih : List Nat → Slots → Hp → Rn) (kn : List Nat) (s : Slots) (h : Hp) : Rn :=
  match o.dst with
  | some d => match Nat.blt d k with
    | true => ih kn ((d, .tup []) :: s) h
    | false => .bad d
  | none => .bad 1001
/-- An operation, and what comes behind it. lit: all truth values are plain. -/
noncomputable def stepG (X : Fx) (c : Cs) (B k : Nat) (lit : Bool) (ops : List Oper) (ms : List Nat) (gi : Bool) (rid : Option Nat) (live : List Nat) (o : Oper) (ih : List Nat → Slots → Hp → Rn) (kn : List Nat) (s : Slots) (h : Hp) : Rn :=
  match o.guard with
  | none => openR X c B k gi rid o ih kn s h
  | some (j, want) => match ySlot ops j with
    | some dj => match lkr s dj with
      | some (.d (.bool b)) => match lit || memN dj kn with
        | true => match want with
          | true => cond b (openR X c B k gi rid o ih kn s h) (shutR k o ih kn s h)
          | false => cond b (shutR k o ih kn s h) (openR X c B k gi rid o ih kn s h)
        | false => match want with
          | true => Rn.mrg b ms live kn s h (openR X c B k gi rid o ih (dj :: kn) ((dj, vb true) :: s) h) (shutR k o ih (dj :: kn) ((dj, vb false) :: s) h)
          | false => Rn.mrg b ms live kn s h (shutR k o ih (dj :: kn) ((dj, vb true) :: s) h) (openR X c B k gi rid o ih (dj :: kn) ((dj, vb false) :: s) h)
      | some (.tup l) => match l with
        | [] => shutR k o ih kn s h
        | _ => .bad dj
      | _ => .bad dj
    | none => .bad 1002
/-- A guard that is shut. -/
def NotW (E : Env) (k B : Nat) (s : Slots) (h : Hp) (ops : Array Oper) (o : Oper) : Prop := ∀ U m a w, SR k B U m s h a w → Region.wanted o (Go.yielded ops a.tmps) = false
theorem NotW.wants {ops : Array Oper} (hw : Wants s ops o false) : NotW E k B s h ops o := fun U m a w r => r.wants hw
theorem NotW.off {ops : Array Oper} {j dj : Nat} {want : Bool} (hg : o.guard = some (j, want)) (hj : yieldSlot ops j = some dj) (hb : lk s dj = some (.tup [])) : NotW E k B s h ops o := fun U m a w r => by
  obtain ⟨x, h1, h2⟩ := r.slots dj _ hb
  cases h2 with | tup hl h2 =>
  have e : Go.yielded ops a.tmps j = none := by
    unfold Go.yielded
    unfold yieldSlot at hj
    rw [hj]
    simp [h1]
  simp [Region.wanted, hg, e]
theorem VR.off {U : Nat → Prop} {m : Nat → Option Nat} {n : Nat} {w : World} : VR U m n w (.tup []) undef := .tup rfl (fun j c v h => by simp at h)
/-- Operations, one behind the other. -/
noncomputable def runO (X : Fx) (c : Cs) (B k : Nat) (lit : Bool) (ops : List Oper) (live : List Nat) (l : List Oper) : List Nat → Slots → Hp → Rn :=
  List.rec (motive := fun _ => List Nat → Slots → Hp → Rn) (fun kn s _ => .ok [] (trimS s live) none kn) (fun o _ ih kn s h => stepG X c B k lit ops (modL ops) false none live o ih kn s h) l
/-- Orders. -/
inductive OT where
  | done
  | one (i : Nat) (t : OT)
  | alt (x y : OT)
/-- Two orders that come to the same. -/
noncomputable def Rn.both (r1 r2 : Rn) : Rn :=
  match r1 with
  | .ok l1 s1 h1 kn => match r2 with
    | .ok l2 s2 h2 _ => .ok (.same s1 s2 h1 h2 :: appO l1 l2) s1 h1 kn
    | .bad i => .bad i
  | .bad i => .bad i
/-- Operations in several orders. -/
noncomputable def runT (X : Fx) (c : Cs) (B k : Nat) (lit : Bool) (ops : List Oper) (g : Nat → Bool) (rid : Nat → Option Nat) (live : List Nat) (x : OT) : List Nat → Slots → Hp → Rn :=
  OT.rec (motive := fun _ => List Nat → Slots → Hp → Rn) (fun kn s _ => .ok [] (trimS s live) none kn)
    (fun i _ ih kn s h => match getN ops i with | some o => stepG X c B k lit ops (modL ops) (g i) (rid i) live o ih kn s h | none => .bad 1003)
    (fun _ _ ih1 ih2 kn s h => Rn.both (ih1 kn s h) (ih2 kn s h)) x
def OT.heads : OT → List Nat
  | .done => []
  | .one i _ => [i]
  | .alt x y => x.heads ++ y.heads
mutual
/-- The orders are all there are, but for operations that only yield. -/
def okOT (l : List Oper) (g : Nat → Bool) : OT → Nat → Array Bool → Bool
  | .done, _, listed => (Region.ready .any l.toArray listed).isEmpty
  | .one i t, n + 1, listed => ((Region.ready .any l.toArray listed) == [i] || (match getN l i with
    | some o => match effO o.op with
      | true => false
      | false => (Region.free .any l.toArray listed i && (Region.ready .any l.toArray listed).contains i) && (!rdO o.op || freeG l.toArray listed i g)
    | none => false)) && okOT l g t n (listed.setIfInBounds i true)
  | .alt x y, n + 1, listed => (Region.ready .any l.toArray listed).all (fun i => (x.heads ++ y.heads).contains i) && (!(Region.ready .any l.toArray listed).isEmpty && (okOB l g x (n + 1) listed && okOB l g y (n + 1) listed))
  | _, 0, _ => false
def okOB (l : List Oper) (g : Nat → Bool) : OT → Nat → Array Bool → Bool
  | .one i t, n + 1, listed => okOT l g t n (listed.setIfInBounds i true)
  | .alt x y, n + 1, listed => okOB l g x (n + 1) listed && okOB l g y (n + 1) listed
  | _, _, _ => false
end
/-- What a region's end tells. -/
def Rn.post (h : Hp) (K : Slots → Hp → Prop) : Rn → Prop
  | .ok l s hn _ => obsL l ∧ K s (hn.getD h)
  | .bad _ => False
theorem Rn.post_pre {l : List Ob} {hn : Option Hp} {r : Rn} (h1 : (r.pre l hn).post h K) : obsL l ∧ r.post (hn.getD h) K := by
  cases r with
  | ok l' s h' kn =>
    obtain ⟨h2, h3⟩ := h1
    rw [appO_eq] at h2
    obtain ⟨h4, h5⟩ := obsL_app h2
    rw [orH_getD] at h3
    exact ⟨h4, h5, h3⟩
  | bad i => exact h1.elim
theorem HLe.trans {h1 h2 h3 : Hp} (h : HLe h1 h2) (k : HLe h2 h3) : HLe h1 h3 :=
  ⟨Nat.le_trans h.1 k.1, fun i z hz => by
    obtain ⟨y, e1, e2⟩ := k.2 i z hz
    obtain ⟨x, e3, e4⟩ := h.2 i y e1
    exact ⟨x, e3, fun U m n w mx q => e2 _ _ _ _ _ (e4 _ _ _ _ _ q)⟩⟩
/-- K holds of a state of which less is known. -/
def WK (K : Slots → Hp → Prop) (s : Slots) (h : Hp) : Prop := ∃ s' h', SLe s s' ∧ HLe h h' ∧ K s' h'
/-- A region's end keeps what it doesn't assign. -/
def Rn.kp (ms : List Nat) (s : Slots) : Rn → Prop
  | .ok _ s1 _ _ => Kp ms s s1
  | .bad _ => True
theorem Rn.mrg_post {b : Bool} {ms live kn : List Nat} {r1 r2 : Rn} (k1 : r1.kp ms s) (k2 : r2.kp ms s) (hp : (Rn.mrg b ms live kn s h r1 r2).post h (WK K)) : (b = true → r1.post h (WK K)) ∧ (b = false → r2.post h (WK K)) := by
  cases r1 with
  | bad i => exact hp.elim
  | ok l1 s1 h1 kk1 =>
  cases r2 with
  | bad i => exact hp.elim
  | ok l2 s2 h2 kk2 =>
  obtain ⟨g1, g2⟩ := selK_le (b := b) k1 k2 live
  have key : ∀ (hm : Option Hp), (b = true → HLe (h1.getD h) (hm.getD h)) → (b = false → HLe (h2.getD h) (hm.getD h)) → (Rn.ok (brO b l1 l2) (selK b ms s s1 s2 live) hm kn).post h (WK K) → (b = true → (Rn.ok l1 s1 h1 kk1).post h (WK K)) ∧ (b = false → (Rn.ok l2 s2 h2 kk2).post h (WK K)) := fun hm e1 e2 ⟨q1, s', h', q2, q3, q4⟩ => by
    obtain ⟨o1, o2⟩ := brO_ok q1
    exact ⟨fun hb => ⟨o1 hb, s', h', (SLe.of (g1 hb)).trans q2, (e1 hb).trans q3, q4⟩, fun hb => ⟨o2 hb, s', h', (SLe.of (g2 hb)).trans q2, (e2 hb).trans q3, q4⟩⟩
  cases h1 <;> cases h2
  · exact key none (fun _ => .refl _) (fun _ => .refl _) hp
  all_goals exact key (some _) (fun hb => selH_t hb _ _ _) (fun hb => selH_f hb _ _ _) hp
theorem Rn.mrg_kp {b : Bool} {ms live kn : List Nat} {r1 r2 : Rn} (k1 : r1.kp ms s) : (Rn.mrg b ms live kn s h r1 r2).kp ms s := by
  cases r1 with
  | bad i => trivial
  | ok l1 s1 h1 kk1 =>
  cases r2 with
  | bad i => trivial
  | ok l2 s2 h2 kk2 => cases h1 <;> cases h2 <;> exact selK_kp k1 live
theorem Rn.pre_kp {ms : List Nat} {l : List Ob} {hn : Option Hp} {r : Rn} {s0 : Slots} (k0 : Kp ms s s0) (k : r.kp ms s0) : (r.pre l hn).kp ms s := by
  cases r with
  | bad i => trivial
  | ok => exact k0.trans k
theorem Rn.both_kp {ms : List Nat} {r1 r2 : Rn} (k : r1.kp ms s) : (Rn.both r1 r2).kp ms s := by
  cases r1 with
  | bad i => trivial
  | ok => cases r2 <;> first | exact k | trivial
theorem stX_kp {X : Fx} {t : Nat} {v1 v2 : V} {hn : Nat} {hb : Heap} {c : Bool} (h1 : stX X t v1 v2 s hn hb = some (c, s', h')) : s' = s := by
  unfold stX at h1
  repeat' (first | (split at h1) | (injection h1 with h1; simp only [Prod.mk.injEq] at h1; exact h1.2.1.symm) | (cases h1; done))
theorem putX_kp {X : Fx} {t : Nat} {v1 v2 v3 : V} {hn : Nat} {hb : Heap} {c : Bool} (h1 : putX X t v1 v2 v3 s hn hb = some (c, s', h')) : s' = s := by
  unfold putX at h1
  repeat' (first | (split at h1) | (injection h1 with h1; simp only [Prod.mk.injEq] at h1; exact h1.2.1.symm) | (cases h1; done))
theorem mkMapX_kp {X : Fx} {d t : Nat} {hn : Nat} {hb : Heap} {c : Bool} (h1 : mkMapX X d t s hn hb = some (c, s', h')) : ∃ v, s' = (d, v) :: s := by
  unfold mkMapX at h1
  repeat' (first | (split at h1) | (injection h1 with h1; simp only [Prod.mk.injEq] at h1; exact ⟨_, h1.2.1.symm⟩) | (cases h1; done))
theorem bsX_kp {X : Fx} {d len : Nat} {t : Nat} {parts : List (Nat × Operand)} {hn : Nat} {hb : Heap} {c : Bool} (h1 : bsX X d len t parts s hn hb = some (c, s', h')) : ∃ v, s' = (d, v) :: s := by
  unfold bsX at h1
  repeat' (first | (split at h1) | (injection h1 with h1; simp only [Prod.mk.injEq] at h1; exact ⟨_, h1.2.1.symm⟩) | (cases h1; done))
theorem apX_kp {X : Fx} {d : Nat} {t : Nat} {x : Operand} {v1 v2 : V} {hn : Nat} {hb : Heap} {c : Bool} (h1 : apX X B d t x v1 v2 s hn hb = some (c, s', h')) : (∃ v id, s' = (d, v) :: dropS id s) ∨ ∃ tt u v id, x = .tmp tt ∧ s' = (d, v) :: dropS id ((tt, u) :: s) := by
  unfold apX at h1
  repeat' (first | (split at h1) | (injection h1 with h1; simp only [Prod.mk.injEq] at h1; exact .inl ⟨_, _, h1.2.1.symm⟩) | (injection h1 with h1; simp only [Prod.mk.injEq] at h1; exact .inr ⟨_, _, _, _, rfl, h1.2.1.symm⟩) | (cases h1; done))
theorem putR_kp {ms : List Nat} {o : Oper} (hd : ∀ d, o.dst = some d → d ∈ ms) (v : V) : Kp ms s (putR o.dst v s) := by
  cases e : o.dst with
  | none => exact .refl _ _
  | some d => exact .put (hd d e) v s
theorem modO_dst {o : Oper} {d : Nat} (h : o.dst = some d) : d ∈ modO o := by
  unfold modO
  split
  · rw [h]; simp
  · rw [h]; simp
theorem stepA_kp {X : Fx} {c : Cs} {gi : Bool} {rid : Option Nat} {l : List Ob} {hn : Option Hp} (h1 : stepA X c B k gi rid o s h = some (l, s', hn)) : Kp (modO o) s s' := by
  have hd : ∀ d, o.dst = some d → d ∈ modO o := fun d => modO_dst
  cases rid with
  | some id =>
    have h1 : allocX X B k id o s h = some (l, s', hn) := h1
    unfold allocX at h1
    split at h1
    · split at h1
      · rename_i d ty he ht
        repeat' (first | (split at h1) | (injection h1 with h1; simp only [Prod.mk.injEq] at h1; obtain ⟨_, rfl, _⟩ := h1; exact .put (hd d he) _ _) | (cases h1; done))
      · cases h1
    · cases h1
  | none =>
    have h1 : stepX X c B k gi o s h = some (l, s', hn) := h1
    unfold stepX at h1
    split at h1
    · split at h1
      · rename_i d he
        split at h1
        · injection h1 with h1; simp only [Prod.mk.injEq] at h1; obtain ⟨_, rfl, _⟩ := h1
          exact .put (hd d he) _ _
        · cases h1
      · cases h1
    · split at h1
      · split at h1
        · split at h1
          · split at h1
            · injection h1 with h1; simp only [Prod.mk.injEq] at h1; obtain ⟨_, rfl, _⟩ := h1
              exact putR_kp hd _
            · cases h1
          · split at h1
            · split at h1
              · injection h1 with h1; simp only [Prod.mk.injEq] at h1; obtain ⟨_, rfl, _⟩ := h1
                exact putR_kp hd _
              · cases h1
            · cases h1
          · cases h1
        · cases h1
      · split at h1
        · rename_i cb s2 h2 hg ha
          injection h1 with h1; simp only [Prod.mk.injEq] at h1; obtain ⟨_, rfl, _⟩ := h1
          unfold aX at ha
          split at ha
          · split at ha
            · rename_i d v he hx
              split at ha
              · injection ha with ha; simp only [Prod.mk.injEq] at ha; obtain ⟨_, rfl, _⟩ := ha
                exact .put (hd d he) _ _
              · cases ha
            · cases ha
          · split at ha
            · rename_i d ty he hx
              split at ha
              · split at ha
                · injection ha with ha; simp only [Prod.mk.injEq] at ha; obtain ⟨_, rfl, _⟩ := ha
                  exact .put (hd d he) _ _
                · cases ha
              · cases ha
            · cases ha
          · split at ha
            · rw [stX_kp ha]; exact .refl _ _
            · cases ha
          · split at ha
            · rename_i d he
              split at ha
              · obtain ⟨v, e⟩ := bsX_kp ha
                rw [e]; exact .put (hd d he) _ _
              · cases ha
            · cases ha
          · split at ha
            · rename_i d he _
              split at ha
              · obtain ⟨v, e⟩ := mkMapX_kp ha
                rw [e]; exact .put (hd d he) _ _
              · cases ha
            · cases ha
          · split at ha
            · split at ha
              · rw [putX_kp ha]; exact .refl _ _
              · cases ha
            · cases ha
          · split at ha
            · split at ha
              · rw [putX_kp ha]; exact .refl _ _
              · cases ha
            · cases ha
          · rename_i x y t t' ho
            split at ha
            · rename_i d v1 v2 he hx hy
              split at ha
              · rcases apX_kp ha with ⟨v, id, e⟩ | ⟨tt, u, v, id, ex, e⟩
                · rw [e]; exact (Kp.drop _ id s).trans (.put (hd d he) _ _)
                · rw [e]
                  have hm : tt ∈ modO o := by unfold modO; rw [ho, ex, he]; simp
                  exact ((Kp.put hm u s).trans (Kp.drop _ id _)).trans (.put (hd d he) _ _)
              · cases ha
            · cases ha
          · cases ha
        · cases h1
section
variable {X : Fx} {c : Cs} {lit gi : Bool} {rid : Option Nat} {g : Nat → Bool} {live kn : List Nat} {ih : List Nat → Slots → Hp → Rn} {l : List Oper}
theorem openR_ok (hX : X.tab = E.tab) (he : EqT E X.eqs) (hc : CsOk E c) {P : Slots → Hp → Prop} (hp : (openR X c B k gi rid o ih kn s h).post h (WK K)) (hih : ∀ kn s h, (ih kn s h).post h (WK K) → P s h) :
    Ef E k B gi s h o P ∧ (effO o.op = false → ∃ d v, o.dst = some d ∧ Nat.blt d k = true ∧ P ((d, v) :: s) h ∧ Yl (rdO o.op) E k B s h o v) := by
  unfold openR at hp
  split at hp
  · rename_i l s' h' hst
    have hq : obsL l ∧ P s' (h'.getD h) := by
      rw [frS1_eq] at hp
      split at hp
      · obtain ⟨q1, q2⟩ := Rn.post_pre hp
        exact ⟨q1, hih _ _ _ q2⟩
      · rw [frH_eq] at hp
        obtain ⟨q1, q2⟩ := Rn.post_pre hp
        exact ⟨q1, hih _ _ _ q2⟩
    obtain ⟨q1, q2⟩ := hq
    obtain ⟨e1, e2⟩ := stepA_ok (E := E) hX he hc hst q1
    refine ⟨e1.mono fun s2 h2 ⟨g1, g2⟩ => by subst g1; subst g2; exact q2, fun heff => ?_⟩
    obtain ⟨d, v, g1, g2, g3, g4, g5⟩ := e2 heff
    subst g3; subst g4
    exact ⟨d, v, g1, g2, q2, g5⟩
  · split at hp <;> exact hp.elim
theorem shutR_ok {P : Slots → Hp → Prop} (hp : (shutR k o ih kn s h).post h (WK K)) (hih : ∀ kn s h, (ih kn s h).post h (WK K) → P s h) : ∃ d, o.dst = some d ∧ Nat.blt d k = true ∧ P ((d, .tup []) :: s) h := by
  unfold shutR at hp
  split at hp
  · rename_i d hd
    split at hp
    · rename_i hk
      exact ⟨d, hd, hk, hih _ _ _ hp⟩
    · exact hp.elim
  · exact hp.elim
theorem modL_mem {ops : List Oper} {o : Oper} (h : o ∈ ops) : ∀ t, t ∈ modO o → t ∈ modL ops := by
  induction ops with
  | nil => cases h
  | cons p r ih =>
    intro t ht
    have e : modL (p :: r) = modO p ++ modL r := rfl
    rw [e, List.mem_append]
    rcases List.mem_cons.1 h with rfl | h
    · exact .inl ht
    · exact .inr (ih h t ht)
theorem ySlot_mem {ops : List Oper} {j dj : Nat} (h : ySlot ops j = some dj) : dj ∈ modL ops := by
  unfold ySlot at h
  split at h
  · rename_i o ho
    rw [getN_eq] at ho
    exact modL_mem (List.mem_of_getElem? ho) _ (modO_dst h)
  · cases h
/-- What comes behind keeps what isn't assigned. -/
def KpI (ms : List Nat) (ih : List Nat → Slots → Hp → Rn) : Prop := ∀ kn s h, (ih kn s h).kp ms s
theorem openR_kp {ms : List Nat} (hm : ∀ t, t ∈ modO o → t ∈ ms) (hk : KpI ms ih) (kn : List Nat) (s : Slots) (h : Hp) : (openR X c B k gi rid o ih kn s h).kp ms s := by
  unfold openR
  split
  · rename_i l s' h' hst
    have k0 := (stepA_kp hst).mono hm
    rw [frS1_eq]
    split
    · exact Rn.pre_kp k0 (hk _ _ _)
    · rw [frH_eq]; exact Rn.pre_kp k0 (hk _ _ _)
  · split <;> trivial
theorem shutR_kp {ms : List Nat} (hm : ∀ t, t ∈ modO o → t ∈ ms) (hk : KpI ms ih) (kn : List Nat) (s : Slots) (h : Hp) : (shutR k o ih kn s h).kp ms s := by
  unfold shutR
  split
  · rename_i d hd
    split
    · have := hk kn ((d, .tup []) :: s) h
      generalize ih kn ((d, .tup []) :: s) h = r at this
      cases r with
      | bad i => trivial
      | ok => exact (Kp.put (hm _ (modO_dst hd)) _ _).trans this
    · trivial
  · trivial
theorem Rn.kp_of {ms : List Nat} {s0 : Slots} {r : Rn} (k0 : Kp ms s s0) (k : r.kp ms s0) : r.kp ms s := by
  cases r with
  | bad i => trivial
  | ok => exact k0.trans k
theorem stepG_kp {ops : List Oper} (ho : o ∈ ops) (hk : KpI (modL ops) ih) (kn : List Nat) (s : Slots) (h : Hp) : (stepG X c B k lit ops (modL ops) gi rid live o ih kn s h).kp (modL ops) s := by
  have hm := modL_mem ho
  unfold stepG
  split
  · exact openR_kp hm hk _ _ _
  · split
    · rename_i dj hj
      have hdj := ySlot_mem hj
      split
      · split
        · have kc : ∀ (r1 r2 : Rn), r1.kp (modL ops) s → r2.kp (modL ops) s → ∀ (w b : Bool), Rn.kp (modL ops) s (match w with | true => cond b r1 r2 | false => cond b r2 r1) := fun r1 r2 h1 h2 w b => by cases w <;> cases b <;> assumption
          exact kc _ _ (openR_kp hm hk _ _ _) (shutR_kp hm hk _ _ _) _ _
        · split
          · exact Rn.mrg_kp (Rn.kp_of (Kp.put hdj _ _) (openR_kp hm hk _ _ _))
          · exact Rn.mrg_kp (Rn.kp_of (Kp.put hdj _ _) (shutR_kp hm hk _ _ _))
      · split
        · exact shutR_kp hm hk _ _ _
        · trivial
      · trivial
    · trivial
/-- A guard's three ways: R holds where the guard's answer is told, and of less. -/
theorem stepG_ok {ops : List Oper} {R : Slots → Prop} (hin : o ∈ ops) (hki : KpI (modL ops) ih) (hp : (stepG X c B k lit ops (modL ops) gi rid live o ih kn s h).post h (WK K))
    (hR : ∀ s1, SLe s s1 → R s1 → R s)
    (ho : ∀ kn s1, Wants s1 ops.toArray o true → (openR X c B k gi rid o ih kn s1 h).post h (WK K) → R s1)
    (hs : ∀ kn s1, NotW E k B s1 h ops.toArray o → (shutR k o ih kn s1 h).post h (WK K) → R s1) : R s := by
  unfold stepG at hp
  split at hp
  · rename_i hg
    exact ho _ s (.none hg) hp
  · rename_i j want hg
    split at hp
    · rename_i dj hj0
      have hdj := ySlot_mem hj0
      have hj := hj0
      rw [ySlot_eq] at hj
      have hm := modL_mem hin
      have ko : ∀ kn v h, (openR X c B k gi rid o ih kn ((dj, v) :: s) h).kp (modL ops) s := fun kn v h => Rn.kp_of (Kp.put hdj _ _) (openR_kp hm hki _ _ _)
      have ks : ∀ kn v h, (shutR k o ih kn ((dj, v) :: s) h).kp (modL ops) s := fun kn v h => Rn.kp_of (Kp.put hdj _ _) (shutR_kp hm hki _ _ _)
      rw [lkr_eq] at hp
      split at hp
      · rename_i b hb
        split at hp
        · cases want
          · cases b
            · exact ho _ s (.open hg hj hb rfl) hp
            · exact hs _ s (.wants (.shut hg hj hb rfl)) hp
          · cases b
            · exact hs _ s (.wants (.shut hg hj hb rfl)) hp
            · exact ho _ s (.open hg hj hb rfl) hp
        · cases want
          · obtain ⟨h1, h2⟩ := Rn.mrg_post (ks _ _ _) (ko _ _ _) hp
            cases hbb : b
            · exact hR _ (SLe.known hb hbb) (ho _ _ (.open hg hj (lk_here _ _ _) rfl) (h2 hbb))
            · exact hR _ (SLe.known hb hbb) (hs _ _ (.wants (.shut hg hj (lk_here _ _ _) rfl)) (h1 hbb))
          · obtain ⟨h1, h2⟩ := Rn.mrg_post (ko _ _ _) (ks _ _ _) hp
            cases hbb : b
            · exact hR _ (SLe.known hb hbb) (hs _ _ (.wants (.shut hg hj (lk_here _ _ _) rfl)) (h2 hbb))
            · exact hR _ (SLe.known hb hbb) (ho _ _ (.open hg hj (lk_here _ _ _) rfl) (h1 hbb))
      · rename_i hb
        split at hp
        · exact hs _ s (.off hg hj hb) hp
        · exact hp.elim
      · exact hp.elim
    · exact hp.elim
theorem TO.wants {ops : Array Oper} (hw : Wants s ops o true) (t : TO E k B ops ({ o with guard := none } :: rest) s h Q) : TO E k B ops (o :: rest) s h Q := by
  rcases hw with ⟨hg, _⟩ | ⟨j, want, dj, b, h1, h2, h3, h4⟩
  · obtain ⟨a1, a2, a3, a4, a5, a6⟩ := o
    dsimp only at hg
    subst hg; exact t
  · exact TO.open h1 h2 h3 (by cases b <;> cases want <;> first | rfl | cases h4) t
theorem TO.wantsNot {ops : Array Oper} (hw : NotW E k B s h ops o) (hd : o.dst = some d) (hk : Nat.blt d k = true) (t : TO E k B ops rest ((d, .tup []) :: s) h Q) : TO E k B ops (o :: rest) s h Q := fun U m a w r => by
  unfold wpList
  rw [if_neg (by simp [hw U m a w r]), hd]
  exact t U m _ w (r.put hk .off)
theorem runO_kp (ops : List Oper) : ∀ (l : List Oper), (∀ o ∈ l, o ∈ ops) → KpI (modL ops) (runO X c B k lit ops live l)
  | [], _ => fun kn s h => Kp.trim _ s live
  | o :: r, hl => fun kn s h => stepG_kp (hl o List.mem_cons_self) (runO_kp ops r fun o ho => hl o (List.mem_cons_of_mem _ ho)) kn s h
/-- Operations in the text's order. -/
theorem runO_TO (hX : X.tab = E.tab) (he : EqT E X.eqs) (hc : CsOk E c) (ops : List Oper) : ∀ (l : List Oper), (∀ o ∈ l, o ∈ ops) → ∀ (kn : List Nat) (s : Slots) (h : Hp), (runO X c B k lit ops live l kn s h).post h (WK (Q .normal)) → TO E k B ops.toArray l s h Q
  | [], _, kn, s, h, hp => by
    obtain ⟨_, s', h', q2, q3, q4⟩ := hp
    exact TO.leS (TO.nil q4) ((SLe.of (trimS_le s live)).trans q2) q3
  | o :: r, hl, kn, s, h, hp => by
    have hr : ∀ o ∈ r, o ∈ ops := fun o ho => hl o (List.mem_cons_of_mem _ ho)
    have ih := runO_TO hX he hc ops r hr
    refine stepG_ok (E := E) (hin := hl o List.mem_cons_self) (hki := runO_kp ops r hr) (R := fun s => TO E k B ops.toArray (o :: r) s h Q) (K := Q .normal) (hp : (stepG X c B k lit ops (modL ops) false none live o (runO X c B k lit ops live r) kn s h).post h (WK (Q .normal))) (fun s1 l t => TO.leS t l (.refl _)) (fun kn s1 hw q => ?_) (fun kn s1 hw q => ?_)
    · exact TO.wants hw (TO.ef (g := false) rfl (openR_ok hX he hc q ih).1)
    · obtain ⟨d, hd, hk, t⟩ := shutR_ok q ih
      exact TO.wantsNot hw hd hk t
/-- An operation of some, and then the rest. -/
def TB (E : Env) (k B : Nat) (ops : Array Oper) (g : Nat → Bool) (n : Nat) (listed : Array Bool) (i : Nat) (s : Slots) (h : Hp) (Q : Post) : Prop :=
  ∀ U m a w, SR k B U m s h a w → wpOp E.P ops (RP k B U m h w Q) i (fun a' w' => (g i = true → Same0 w w') ∧ wpAnyK E.P ops (RP k B U m h w Q) g n (listed.setIfInBounds i true) a' w') a w
theorem TB.leS {ops : Array Oper} {n i : Nat} {listed : Array Bool} (t : TB E k B ops g n listed i s' h' Q) (hs : SLe s s') (hh : HLe h h') : TB E k B ops g n listed i s h Q := fun U m a w r => by
  obtain ⟨r1, st⟩ := (r.sle hs).leH hh
  exact wpOp_monoQ (fun a2 w2 q => ⟨q.1, wpAnyK_mono (fun e a3 w3 q => RP_trans st q) _ _ _ _ q.2⟩) (fun e a2 w2 q => RP_trans st q) (t U m a w r1)
theorem TB.ef {ops : Array Oper} {n i : Nat} {listed : Array Bool} (hi : ops[i]? = some o) (e : Ef E k B (g i) s h o (fun s' h' => TA E k B ops g n (listed.setIfInBounds i true) s' h' Q)) (hw : Wants s ops o true) : TB E k B ops g n listed i s h Q := fun U m a w r => by
  unfold wpOp
  simp only [hi, r.wants hw, if_true]
  exact .inl (e U m a w _ _ r fun a' w' U' m' s' h' q r1 st hs => ⟨hs, wpAnyK_mono (fun e a2 w2 q => RP_trans st q) _ _ _ _ (q U' m' a' w' r1)⟩)
theorem TA.shutN {g : Nat → Bool} {n : Nat} {listed : Array Bool} (i : Nat) (hi : ops[i]? = some o) (hw : NotW E k B s h ops o) (hd : o.dst = some d) (hk : Nat.blt d k = true) (hP : NoPanic Q) (hsel : Region.noSelect ops = true) (hf : Region.free .any ops listed i = true)
    (hr : (Region.ready .any ops listed).contains i = true) (t : TA E k B ops g n (listed.setIfInBounds i true) ((d, .tup []) :: s) h Q) : TA E k B ops g (n + 1) listed s h Q := fun U m a w r => by
  refine wpAnyK_first (ρ := false) (v := undef) hi hsel (RP.noPanic hP) n listed a w (fun j oj hj hne hun hno => ⟨Region.free_spec hi hf j oj hj hne hun hno, fun hρ => by cases hρ⟩) (by simpa using hr) (.inr ⟨hw U m a w r, rfl⟩) ?_
  rw [hd]; exact t U m _ w (r.put hk .off)
theorem TB.shut {ops : Array Oper} {n i : Nat} {listed : Array Bool} (hi : ops[i]? = some o) (hw : NotW E k B s h ops o) (hd : o.dst = some d) (hk : Nat.blt d k = true) (t : TA E k B ops g n (listed.setIfInBounds i true) ((d, .tup []) :: s) h Q) : TB E k B ops g n listed i s h Q := fun U m a w r => by
  unfold wpOp
  simp only [hi, hw U m a w r]
  rw [if_neg (by simp), hd]
  exact ⟨fun _ => .refl w, t U m _ w (r.put hk .off)⟩
theorem TA.of_B {ops : Array Oper} {n : Nat} {listed : Array Bool} (hne : Region.ready .any ops listed ≠ []) (t : ∀ i ∈ Region.ready .any ops listed, TB E k B ops g n listed i s h Q) : TA E k B ops g (n + 1) listed s h Q := fun U m a w r =>
  ⟨fun e => absurd e hne, fun i hi => t i hi U m a w r⟩
theorem Rn.both_post {r1 r2 : Rn} (hp : (Rn.both r1 r2).post h K) : r1.post h K ∧ r2.post h K := by
  cases r1 with
  | bad i => exact hp.elim
  | ok l1 s1 h1 k1 =>
  cases r2 with
  | bad i => exact hp.elim
  | ok l2 s2 h2 k2 =>
  obtain ⟨q1, q2⟩ := hp
  obtain ⟨q3, q4⟩ := obsL_cons q1
  unfold Ob.all at q3
  rw [appO_eq] at q4
  obtain ⟨q4, q5⟩ := obsL_app q4
  obtain ⟨rfl, rfl⟩ := q3
  exact ⟨⟨q4, q2⟩, q5, q2⟩
section
variable (hX : X.tab = E.tab) (he : EqT E X.eqs) (hc : CsOk E c) (ops : List Oper) (rd : Nat → Option Nat) (hP : NoPanic Q) (hs : Region.noSelect ops.toArray = true)
include hX he hc hP hs
omit hX he hc hP hs in
theorem runT_kp : ∀ (x : OT), KpI (modL ops) (runT X c B k lit ops g rd live x)
  | .done => fun kn s h => Kp.trim _ s live
  | .one i t => fun kn s h => by
    show (match getN ops i with | some o => stepG X c B k lit ops (modL ops) (g i) (rd i) live o (runT X c B k lit ops g rd live t) kn s h | none => Rn.bad 1003).kp (modL ops) s
    split
    · rename_i o ho
      rw [getN_eq] at ho
      exact stepG_kp (List.mem_of_getElem? ho) (runT_kp t) kn s h
    · trivial
  | .alt x y => fun kn s h => Rn.both_kp (runT_kp x kn s h)
theorem runT_ok : ∀ (x : OT) (n : Nat) (listed : Array Bool) (kn : List Nat) (s : Slots) (h : Hp), (runT X c B k lit ops g rd live x kn s h).post h (WK (Q .normal)) →
    (okOT ops g x n listed = true → TA E k B ops.toArray g n listed s h Q) ∧ (∀ n', n = n' + 1 → okOB ops g x n listed = true → ∀ i ∈ x.heads, TB E k B ops.toArray g n' listed i s h Q) := by
  intro x
  induction x with
  | done =>
    intro n listed kn s h hp
    obtain ⟨_, s', h', q2, q3, q4⟩ := hp
    refine ⟨fun hok => TA.leS (TA.done ?_ q4) ((SLe.of (trimS_le s live)).trans q2) q3, fun n' e hok => ?_⟩
    · cases n <;> simpa [okOT] using hok
    · subst e; simp [okOB] at hok
  | one i t ih =>
    intro n listed kn s h hp
    have hp' : (match getN ops i with | some o => stepG X c B k lit ops (modL ops) (g i) (rd i) live o (runT X c B k lit ops g rd live t) kn s h | none => Rn.bad 1003).post h (WK (Q .normal)) := hp
    cases hi : getN ops i with
    | none => rw [hi] at hp'; exact hp'.elim
    | some o =>
    rw [hi] at hp'
    have hp' : (stepG X c B k lit ops (modL ops) (g i) (rd i) live o (runT X c B k lit ops g rd live t) kn s h).post h (WK (Q .normal)) := hp'
    have hia := get_toArray ops i hi
    have hmem : o ∈ ops := by rw [getN_eq] at hi; exact List.mem_of_getElem? hi
    have hkp : KpI (modL ops) (runT X c B k lit ops g rd live t) := runT_kp ops rd t
    have tb : ∀ n', okOT ops g t n' (listed.setIfInBounds i true) = true → TB E k B ops.toArray g n' listed i s h Q := fun n' hok => by
      have ih' : ∀ kn s h, (runT X c B k lit ops g rd live t kn s h).post h (WK (Q .normal)) → TA E k B ops.toArray g n' (listed.setIfInBounds i true) s h Q := fun kn s h q => (ih n' _ kn s h q).1 hok
      refine stepG_ok (E := E) (hin := hmem) (hki := hkp) (R := fun s => TB E k B ops.toArray g n' listed i s h Q) (K := Q .normal) hp' (fun s1 l t => TB.leS t l (.refl _)) (fun kn s1 hw q => ?_) (fun kn s1 hw q => ?_)
      · exact TB.ef hia (openR_ok hX he hc q ih').1 hw
      · obtain ⟨d, hd, hk, t⟩ := shutR_ok q ih'
        exact TB.shut hia hw hd hk t
    refine ⟨fun hok => ?_, fun n' e hok => ?_⟩
    · cases n with
      | zero => simp [okOT] at hok
      | succ n' =>
      simp only [okOT, hi, Bool.and_eq_true, Bool.or_eq_true] at hok
      obtain ⟨hok1, hok2⟩ := hok
      rcases hok1 with hok1 | hok1
      · simp only [beq_iff_eq] at hok1
        refine TA.of_B (by rw [hok1]; simp) (fun j hj => ?_)
        rw [hok1] at hj
        simp only [List.mem_singleton] at hj
        subst hj
        exact tb n' hok2
      · cases heff : effO o.op
        · simp only [heff, Bool.and_eq_true] at hok1
          have ih' : ∀ kn s h, (runT X c B k lit ops g rd live t kn s h).post h (WK (Q .normal)) → TA E k B ops.toArray g n' (listed.setIfInBounds i true) s h Q := fun kn s h q => (ih n' _ kn s h q).1 hok2
          refine stepG_ok (E := E) (hin := hmem) (hki := hkp) (R := fun s => TA E k B ops.toArray g (n' + 1) listed s h Q) (K := Q .normal) hp' (fun s1 l t => TA.leS t l (.refl _)) (fun kn s1 hw q => ?_) (fun kn s1 hw q => ?_)
          · obtain ⟨d, v, hd, hk, t, y⟩ := (openR_ok hX he hc q ih').2 heff
            exact TA.take (ρ := rdO o.op) i hia y hw hd hk hP hs hok1.1.1 hok1.1.2 hok1.2 t
          · obtain ⟨d, hd, hk, t⟩ := shutR_ok q ih'
            exact TA.shutN i hia hw hd hk hP hs hok1.1.1 hok1.1.2 t
        · simp [heff] at hok1
    · subst e
      simp only [okOB] at hok
      intro j hj
      simp only [OT.heads, List.mem_singleton] at hj
      subst hj
      exact tb n' hok
  | alt x y ihx ihy =>
    intro n listed kn s h hp
    have hp' : (Rn.both (runT X c B k lit ops g rd live x kn s h) (runT X c B k lit ops g rd live y kn s h)).post h (WK (Q .normal)) := hp
    obtain ⟨p1, p2⟩ := Rn.both_post hp'
    have hb : ∀ n', n = n' + 1 → (okOB ops g x n listed = true ∧ okOB ops g y n listed = true) → ∀ i ∈ (OT.alt x y).heads, TB E k B ops.toArray g n' listed i s h Q := fun n' e hok i hi => by
      simp only [OT.heads, List.mem_append] at hi
      rcases hi with hi | hi
      · exact (ihx n listed kn s h p1).2 n' e hok.1 i hi
      · exact (ihy n listed kn s h p2).2 n' e hok.2 i hi
    refine ⟨fun hok => ?_, fun n' e hok => ?_⟩
    · cases n with
      | zero => simp [okOT] at hok
      | succ n' =>
      simp only [okOT, Bool.and_eq_true, List.all_eq_true] at hok
      obtain ⟨hok1, hok2, hok3⟩ := hok
      refine TA.of_B (fun e => by rw [e] at hok2; simp at hok2) (fun j hj => hb n' rfl hok3 j ?_)
      have := hok1 j hj
      simpa [OT.heads] using this
    · subst e
      simp only [okOB, Bool.and_eq_true] at hok
      exact hb n' rfl hok
end
end
end
end Go.Proofs.Ythkoinngmcpjgaa
