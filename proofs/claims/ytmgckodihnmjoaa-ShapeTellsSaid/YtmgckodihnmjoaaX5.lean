/-
  The reckoner: what any operation yields that changes nothing, all kinds. Conditions: none.
-/
import Derived.Test.YtmgckodihnmjoaaX4
set_option linter.unusedVariables false
set_option linter.unusedSimpArgs false
set_option maxRecDepth 20000
namespace Go.Proofs.Ytmgckodihnmjoaa
open Go.RowKit

section
variable {E : Env} {k B : Nat} {s s' : Slots} {h h' : Hp} {Q Q' : Post} {U : Nat → Prop} {m : Nat → Option Nat} {a : Act} {w w' : World} {o : Oper} {v : V} {d n : Nat} {t u e : TypeId} {td ed : TypeDesc} {tz tb ez eb : Nat} {tr er : Option Value} {x y : Operand} {ρ : Bool} {ops : Array Oper} {rest : List Oper}

theorem bool_D {c : V} {b : Bool} (h : c = vb b) : c = .d (.bool b) := h
theorem Yl.pick {c x y : Operand} {b : Bool} {v1 v2 : V} (ho : o.op = .pick c x y) (hc : evO s c = some (vb b)) (hx : evO s x = some v1) (hy : evO s y = some v2) : Yl ρ E k B s h o (selV b v1 v2) := by
  cases hb : b
  · exact Yl.weak (Yl.pickF ho hc hb hy) (selV_f rfl)
  · exact Yl.weak (Yl.pickT ho hc hb hx) (selV_t rfl)
noncomputable def lenX (tab : List (Nat × Ty)) (t : Nat) (v : V) : Option (Bool × V) :=
  match lkr tab t with
  | some ty => match slD ty.d, v with
    | some _, .d (.rows n _ _) => some (true, vi n)
    | some _, .d (.lst n _) => some (true, vi n)
    | some _, .d .nsl => some (true, vi 0)
    | some _, .sl _ _ _ n => some (true, vi n)
    | _, .d (.str b) => match ty.d with
      | .string => some (true, vi b.size)
      | _ => none
    | _, _ => none
  | none => none
theorem lenX_ok {t : TypeId} {x : Operand} {u : V} {c : Bool} {ats : Array TypeId} (ho : o.op = .call { callee := .builtin .len, args := #[x], argTypes := ats }) (ha : ats[0]? = some t) (hx : evO s x = some u) (h1 : lenX E.tab t u = some (c, v)) : Yl ρ E k B s h o v := by
  unfold lenX at h1
  rw [lkr_eq] at h1
  split at h1
  · rename_i ty ht
    obtain ⟨td, tz, tb, tr⟩ := ty
    dsimp only at h1
    split at h1
    · rename_i hd; injection h1 with h1; simp only [Prod.mk.injEq] at h1; obtain ⟨_, rfl⟩ := h1
      exact Yl.lenRows ho ha ht (slD_ok hd) hx
    · rename_i hd; injection h1 with h1; simp only [Prod.mk.injEq] at h1; obtain ⟨_, rfl⟩ := h1
      exact Yl.lenL ho ha ht (slD_ok hd) hx
    · rename_i hd; injection h1 with h1; simp only [Prod.mk.injEq] at h1; obtain ⟨_, rfl⟩ := h1
      exact Yl.lenN ho ha ht (slD_ok hd) hx
    · rename_i hd; injection h1 with h1; simp only [Prod.mk.injEq] at h1; obtain ⟨_, rfl⟩ := h1
      exact Yl.lenS ho ha ht (slD_ok hd) hx
    · split at h1
      · injection h1 with h1; simp only [Prod.mk.injEq] at h1; obtain ⟨_, rfl⟩ := h1
        exact Yl.lenStr ho ha ht rfl hx
      · cases h1
    · cases h1
  · cases h1
def intD : TypeDesc → Option IntKind
  | .int k => some k
  | _ => none
theorem intD_ok {d : TypeDesc} {k : IntKind} (h : intD d = some k) : d = .int k := by cases d <;> simp [intD] at h; subst h; rfl
noncomputable def convX (tab : List (Nat × Ty)) (wr : Bool) (src dst : Nat) (v : V) : Option (Bool × V) :=
  match v, lkr tab dst, lkr tab src with
  | .d (.int q i), some td, some _ => match intD td.d with
    | some q' => match widens q q' with
      | true => some (true, .d (.int q' i))
      | false => match wr with
        | true => some (inRb q' i, .d (.int q' i))
        | false => some (true, .d (.int q' (q'.wrap i)))
    | none => none
  | _, _, _ => none
theorem convX_ok {x : Operand} {u' : V} {c wr : Bool} (ho : o.op = .convert u t x) (hx : evO s x = some u') (h1 : convX E.tab wr u t u' = some (c, v)) (hc : c = true) : Yl ρ E k B s h o v := by
  unfold convX at h1
  simp only [lkr_eq] at h1
  split at h1
  · rename_i ty ty2 ht ht2
    split at h1
    · rename_i q' hd
      have hd := intD_ok hd
      obtain ⟨td, tz, tb, tr⟩ := ty
      obtain ⟨ud, uz, ub, ur⟩ := ty2
      dsimp only at hd
      split at h1
      · rename_i hw
        injection h1 with h1; simp only [Prod.mk.injEq] at h1; obtain ⟨_, rfl⟩ := h1
        exact Yl.convKeep ho ht hd ht2 hx hw
      · split at h1
        · injection h1 with h1; simp only [Prod.mk.injEq] at h1; obtain ⟨h1, rfl⟩ := h1
          subst h1
          exact Yl.convInt ho ht hd ht2 hx (wrap_eq (inRb_iff.1 hc))
        · injection h1 with h1; simp only [Prod.mk.injEq] at h1; obtain ⟨h1, rfl⟩ := h1
          exact Yl.convInt ho ht hd ht2 hx rfl
    · cases h1
  · cases h1
/-- A slice expression's bound. -/
noncomputable def bndX (s : Slots) (dflt : Nat) : Option Operand → Option Int
  | none => some dflt
  | some x => match evX s x with
    | some (.d (.int _ i)) => some i
    | _ => none
theorem bndX_ok {s : Slots} {n : Nat} {x : Option Operand} {i : Int} (h : bndX s n x = some i) : bnd s n x = some i := by
  cases x with
  | none => exact h
  | some x => simp only [bndX, evX_eq] at h; exact h
def bndI (l hh : Int) (n : Nat) : Bool := (leZ 0 l && leZ l hh) && leZ hh n
theorem bndI_ok {l hh : Int} {n : Nat} (h : bndI l hh n = true) : 0 ≤ l ∧ l ≤ hh ∧ hh ≤ n := by
  obtain ⟨h1, h2⟩ := and_split h
  obtain ⟨h0, h1⟩ := and_split h1
  rw [leZ_eq] at h0 h1 h2
  exact ⟨of_decide_eq_true h0, of_decide_eq_true h1, of_decide_eq_true h2⟩
def nonE (l hh : Int) : Bool := decide (l = 0) || ltZ l hh
theorem nonE_ok {l hh : Int} (h : nonE l hh = true) : l = 0 ∨ l < hh := by
  unfold nonE at h; rcases Bool.or_eq_true_iff.1 h with h | h
  · exact .inl (of_decide_eq_true h)
  · rw [ltZ_eq] at h; exact .inr (of_decide_eq_true h)
noncomputable def sliceX (tab : List (Nat × Ty)) (b : Heap) (t : Nat) (lo hi : Option Int) (hiN : Nat → Option Int) (v : V) : Option (Bool × V) :=
  match lo with
  | some l => match v with
    | .d (.rows n e f) => match slI tab t, hiN n with
      | some z, some hh => match Nat.beq z e with
        | true => some (bndI l hh n, .d (.rows (hh.toNat - l.toNat) z (fun i => f (l.toNat + i))))
        | false => none
      | _, _ => none
    | .d (.lst n cs) => match slI tab t, hiN n with
      | some z, some hh => match dropN (l.toNat * z) cs with
        | some r => match takeN ((hh.toNat - l.toNat) * z) r with
          | some ds => some (bndI l hh n, .d (.lst (hh.toNat - l.toNat) ds))
          | none => none
        | none => none
      | _, _ => none
    | .sl ec id off n => match slI tab t, hiN n with
      | some z, some hh => match Nat.beq z ec with
        | true => some (bndI l hh n && nonE l hh, .sl ec id (off + l.toNat * ec) (hh.toNat - l.toNat))
        | false => none
      | _, _ => none
    | .ptr id off => match arrI tab t, lkr b id with
      | some (len, _, z), some (some (.cells cs)) => match hiN len with
        | some hh => match Nat.ble (off + len * z) cs.length, Nat.ble len 4611686018427387904 with
          | true, true => some (bndI l hh len && nonE l hh, .sl z id (off + l.toNat * z) (hh.toNat - l.toNat))
          | _, _ => none
        | none => none
      | _, _ => none
    | _ => none
  | none => none
theorem sliceX_ok {lo hi : Option Operand} {v1 : V} {c : Bool} (ho : o.op = .slice t x lo hi none) (hx : evO s x = some v1) (h1 : sliceX E.tab h.b t (bndX s 0 lo) none (fun n => bndX s n hi) v1 = some (c, v)) (hc : c = true) : Yl ρ E k B s h o v := by
  unfold sliceX at h1
  split at h1
  · rename_i l hlo
    have hlo := bndX_ok hlo
    split at h1
    · split at h1
      · rename_i z hh hz hhi
        obtain ⟨td, tz, tb, tr, e', ed, eb, er, g1, g2, g3⟩ := slI_ok hz
        split at h1
        · rename_i he
          have he := Nat.eq_of_beq_eq_true he
          injection h1 with h1; simp only [Prod.mk.injEq] at h1; obtain ⟨h1, rfl⟩ := h1
          subst h1
          obtain ⟨b0, b1, b2⟩ := bndI_ok hc
          subst he
          exact Yl.sliceR ho hx g1 g2 g3 hlo (bndX_ok hhi) b0 b1 b2
        · cases h1
      · cases h1
    · split at h1
      · rename_i z hh hz hhi
        obtain ⟨td, tz, tb, tr, e', ed, eb, er, g1, g2, g3⟩ := slI_ok hz
        split at h1
        · rename_i r hr
          split at h1
          · rename_i ds hds
            injection h1 with h1; simp only [Prod.mk.injEq] at h1; obtain ⟨h1, rfl⟩ := h1
            subst h1
            obtain ⟨b0, b1, b2⟩ := bndI_ok hc
            obtain ⟨e3, _⟩ := dropN_ok hr
            obtain ⟨e4, _⟩ := takeN_ok hds
            exact Yl.sliceL ho hx g1 g2 g3 hlo (bndX_ok hhi) b0 b1 b2 (by rw [e3]; exact e4)
          · cases h1
        · cases h1
      · cases h1
    · split at h1
      · rename_i z hh hz hhi
        obtain ⟨td, tz, tb, tr, e', ed, eb, er, g1, g2, g3⟩ := slI_ok hz
        split at h1
        · rename_i he
          have he := Nat.eq_of_beq_eq_true he
          injection h1 with h1; simp only [Prod.mk.injEq] at h1; obtain ⟨h1, rfl⟩ := h1
          subst h1
          obtain ⟨hc1, hc2⟩ := and_split hc
          obtain ⟨b0, b1, b2⟩ := bndI_ok hc1
          exact Yl.sliceS ho hx g1 g2 g3 he hlo (bndX_ok hhi) b0 b1 b2 (nonE_ok hc2)
        · cases h1
      · cases h1
    · split at h1
      · rename_i len g z cs hz hb
        rw [lkr_eq] at hb
        obtain ⟨td, tz, tb, tr, e', ed, eb, er, g1, g2, g3, g4⟩ := arrI_ok hz
        split at h1
        · rename_i hh hhi
          split at h1
          · rename_i hin hlen
            injection h1 with h1; simp only [Prod.mk.injEq] at h1; obtain ⟨h1, rfl⟩ := h1
            subst h1
            obtain ⟨hc1, hc2⟩ := and_split hc
            obtain ⟨b0, b1, b2⟩ := bndI_ok hc1
            exact Yl.sliceA ho hx g1 g2 g3 hb hin hlen hlo (bndX_ok hhi) b0 b1 b2 (nonE_ok hc2)
          · cases h1
        · cases h1
      · cases h1
    · cases h1
  · cases h1
/-- A slice as an array's address. -/
noncomputable def arrSX (tab : List (Nat × Ty)) (t : Nat) (v : V) : Option (Bool × V) :=
  match v, arrI tab t with
  | .sl _ id off n, some (len, _, _) => some (Nat.ble len n && Nat.blt 0 len, .ptr id off)
  | _, _ => none
theorem arrSX_ok {v1 : V} {c : Bool} (ho : o.op = .sliceToArrayPointer t x) (hx : evO s x = some v1) (h1 : arrSX E.tab t v1 = some (c, v)) (hc : c = true) : Yl ρ E k B s h o v := by
  unfold arrSX at h1
  split at h1
  · rename_i hz
    obtain ⟨td, tz, tb, tr, e', ed, eb, er, g1, g2, g3, g4⟩ := arrI_ok hz
    injection h1 with h1; simp only [Prod.mk.injEq] at h1; obtain ⟨h1, rfl⟩ := h1
    subst h1; subst g2
    obtain ⟨hc1, hc2⟩ := and_split hc
    exact Yl.arrS ho hx g1 (Nat.le_of_ble_eq_true hc1) (Nat.le_of_ble_eq_true hc2)
  · cases h1
noncomputable def evXs (s : Slots) : List Operand → Option (List V) :=
  List.rec (some []) (fun x _ ih => match evX s x with | some v => (match ih with | some l => some (v :: l) | none => none) | none => none)
theorem evXs_eq (s : Slots) (xs : List Operand) : evXs s xs = evL s xs := by
  induction xs with
  | nil => rfl
  | cons x r ih =>
    show (match evX s x with | some v => (match evXs s r with | some l => some (v :: l) | none => none) | none => none) = _
    rw [ih, evX_eq]
    simp only [evL]
    cases evO s x <;> cases evL s r <;> rfl
/-- The parts of a literal. -/
noncomputable def fillX (place : Nat → Option (Nat × Nat)) (s : Slots) : List (Nat × Operand) → List V → Option (List V)
  | [], l => some l
  | (i, x) :: rest, l => match place i, evX s x with
    | some p, some v => match csOf v with
      | some cs => match lenN p.2 cs, putN p.1 cs l with
        | true, some l' => fillX place s rest l'
        | _, _ => none
      | none => none
    | _, _ => none
theorem fillX_ok {place : Nat → Option (Nat × Nat)} : ∀ {parts : List (Nat × Operand)} {l l' : List V}, fillX place s parts l = some l' → vfill place s l parts = some l'
  | [], l, l', h => h
  | (i, x) :: rest, l, l', h => by
    simp only [fillX, evX_eq] at h
    simp only [vfill]
    split at h
    · rename_i p v hp hv
      rw [hp, hv]
      dsimp only
      split at h
      · rename_i cs hcs
        obtain ⟨e1, e2⟩ := csOf_ok hcs
        split at h
        · rename_i l2 hl hput
          have e3 := lenN_ok hl
          obtain ⟨e4, e5⟩ := putN_ok hput
          subst e1
          have c1 : Nat.beq v.cs.length p.2 = true := by rw [e3]; exact Nat.beq_refl _
          have c2 : Nat.ble (p.1 + p.2) l.length = true := Nat.ble_eq_true_of_le (by omega)
          rw [c1, c2, e2, e4]
          exact fillX_ok h
        · cases h
      · cases h
    · cases h
noncomputable def buildX (tab : List (Nat × Ty)) (s : Slots) (t : Nat) (parts : List (Nat × Operand)) : Option (Bool × V) :=
  match lkr tab t with
  | some ty => match ty.zero with
    | some z => match absL z.cells.toList with
      | some zl => match ty.d with
        | .struct fs => match places tab fs.toList with
          | some pl => match fillX (fun i => pl[i]?) s parts zl with
            | some l => some (true, .agg l)
            | none => none
          | none => none
        | .array _ e => match lkr tab e with
          | some te => match fillX (fun i => some (i * te.size, te.size)) s parts zl with
            | some l => some (true, .agg l)
            | none => none
          | none => none
        | _ => none
      | none => none
    | none => none
  | none => none
theorem buildX_ok {parts : Array (Nat × Operand)} {c : Bool} (ho : o.op = .build t parts) (h1 : buildX E.tab s t parts.toList = some (c, v)) : Yl ρ E k B s h o v := by
  unfold buildX at h1
  rw [lkr_eq] at h1
  split at h1
  · rename_i ty ht
    obtain ⟨td, tz, tb, tr⟩ := ty
    dsimp only at h1
    split at h1
    · rename_i z
      split at h1
      · rename_i zl hzl
        split at h1
        · rename_i fs
          split at h1
          · rename_i pl hpl
            split at h1
            · rename_i l hl
              injection h1 with h1; simp only [Prod.mk.injEq] at h1; obtain ⟨_, rfl⟩ := h1
              exact Yl.buildS ho ht rfl rfl hzl hpl (fillX_ok hl)
            · cases h1
          · cases h1
        · rw [lkr_eq] at h1
          split at h1
          · rename_i te hte
            obtain ⟨ed, ez, eb, er⟩ := te
            split at h1
            · rename_i l hl
              injection h1 with h1; simp only [Prod.mk.injEq] at h1; obtain ⟨_, rfl⟩ := h1
              exact Yl.buildA ho ht rfl hte rfl hzl (fillX_ok hl)
            · cases h1
          · cases h1
        · cases h1
      · cases h1
    · cases h1
  · cases h1
def unX (op : UnOp) (v : V) : Option (Bool × V) :=
  match op, v with
  | .not, .d (.bool b) => some (true, vb (!b))
  | .neg, .d (.int k i) => some (inRb k (0 - i), .d (.int k (0 - i)))
  | _, _ => none
theorem unX_ok {op : UnOp} {v1 : V} {c : Bool} (ho : o.op = .unOp op t x) (hx : evO s x = some v1) (h1 : unX op v1 = some (c, v)) (hc : c = true) : Yl ρ E k B s h o v := by
  unfold unX at h1
  split at h1
  · injection h1 with h1; simp only [Prod.mk.injEq] at h1; obtain ⟨_, rfl⟩ := h1
    exact Yl.not ho hx
  · injection h1 with h1; simp only [Prod.mk.injEq] at h1; obtain ⟨h1, rfl⟩ := h1
    subst h1
    exact Yl.neg ho hx (wrap_eq (inRb_iff.1 hc))
  · cases h1
noncomputable def mmX (mx : Bool) (v1 v2 : V) : Option (Bool × V) :=
  match v1, v2 with
  | .d (.int k i), .d (.int k' j) => match sameK k k' with
    | true => some (true, .d (.int k (match mx with | true => max i j | false => min i j)))
    | false => none
  | _, _ => none
theorem mmX_max {v1 v2 : V} {c : Bool} {ats : Array TypeId} (ho : o.op = .call { callee := .builtin .max, args := #[x, y], argTypes := ats }) (hx : evO s x = some v1) (hy : evO s y = some v2) (h1 : mmX true v1 v2 = some (c, v)) : Yl ρ E k B s h o v := by
  unfold mmX at h1
  split at h1
  · split at h1
    · rename_i hk
      have := sameK_eq hk
      subst this
      injection h1 with h1; simp only [Prod.mk.injEq] at h1; obtain ⟨_, rfl⟩ := h1
      exact Yl.max2 ho hx hy (by split <;> omega)
    · cases h1
  · cases h1
theorem mmX_min {v1 v2 : V} {c : Bool} {ats : Array TypeId} (ho : o.op = .call { callee := .builtin .min, args := #[x, y], argTypes := ats }) (hx : evO s x = some v1) (hy : evO s y = some v2) (h1 : mmX false v1 v2 = some (c, v)) : Yl ρ E k B s h o v := by
  unfold mmX at h1
  split at h1
  · split at h1
    · rename_i hk
      have := sameK_eq hk
      subst this
      injection h1 with h1; simp only [Prod.mk.injEq] at h1; obtain ⟨_, rfl⟩ := h1
      exact Yl.min2 ho hx hy (by split <;> omega)
    · cases h1
  · cases h1
/-- What the reckoner is told of the program, and of the function at hand: the types that may be compared; whose numbers wrap round; which rows stay at hand; whether rows are told cell by cell. -/
structure Fx where
  tab : List (Nat × Ty)
  eqs : List (Nat × List Kd)
  wr : List Nat
  hd : List Nat
  lit : Bool
noncomputable def memN (i : Nat) (l : List Nat) : Bool := List.rec false (fun x _ ih => cond (Nat.beq x i) true ih) l
/-- What an operation yields, and under which condition. -/
noncomputable def yX (X : Fx) (d : Nat) (s : Slots) (b : Heap) (op : Op) : Option (Bool × V) :=
  match op with
  | .move x => match evX s x with | some v => some (true, v) | none => none
  | .assign x => match evX s x with | some v => some (true, v) | none => none
  | .pick c x y => match evX s c with
    | some (.d (.bool c)) => match evX s x, evX s y with
      | some v1, some v2 => some (true, selV c v1 v2)
      | _, _ => none
    | _ => none
  | .load t x => match evX s x with | some v => loadX X.tab b t v | none => none
  | .fieldAddr t x i => match evX s x with | some v => fieldAddrX X.tab t i v | none => none
  | .field t x i => match evX s x with | some v => fieldX X.tab t i v | none => none
  | .index t x y => match evX s x, evX s y with | some v1, some v2 => indexX X.tab t v1 v2 | _, _ => none
  | .indexAddr t x y => match evX s x, evX s y with | some v1, some v2 => indexAddrX X.tab b t v1 v2 | _, _ => none
  | .binOp op t x y _ => match evX s x, evX s y with | some v1, some v2 => binX X.tab X.eqs (memN d X.wr) op t v1 v2 | _, _ => none
  | .unOp op _ x => match evX s x with | some v => unX op v | none => none
  | .extract x i => match evX s x with
    | some (.tup vs) => match getN vs i with | some v => some (true, v) | none => none
    | _ => none
  | .convert src dst x => match evX s x with | some v => convX X.tab (memN d X.wr) src dst v | none => none
  | .build t parts => buildX X.tab s t parts.toList
  | .slice t x lo hi mx => match mx, evX s x with
    | none, some v => sliceX X.tab b t (bndX s 0 lo) none (fun n => bndX s n hi) v
    | _, _ => none
  | .sliceToArrayPointer t x => match evX s x with | some v => arrSX X.tab t v | none => none
  | .makeFunc f xs ys => match f with
    | .func f => match evXs s xs.toList, evXs s ys.toList with
      | some l1, some l2 => some (true, .fn f l1 l2)
      | _, _ => none
    | _ => none
  | .nilCheck x => match evX s x with
    | some v => match ptrLike v with
      | true => some (true, v)
      | false => none
    | none => none
  | .call { callee := .builtin .len, args := ⟨[x]⟩, argTypes := ⟨t :: _⟩ } => match evX s x with | some v => lenX X.tab t v | none => none
  | .call { callee := .builtin .max, args := ⟨[x, y]⟩, argTypes := _ } => match evX s x, evX s y with | some v1, some v2 => mmX true v1 v2 | _, _ => none
  | .call { callee := .builtin .min, args := ⟨[x, y]⟩, argTypes := _ } => match evX s x, evX s y with | some v1, some v2 => mmX false v1 v2 | _, _ => none
  | _ => none
/-- An operation that reads what lies in blocks. -/
def rdO : Op → Bool
  | .load _ _ => true
  | _ => false
theorem Yl.any {ρ : Bool} (y : Yl false E k B s h o v) : Yl ρ E k B s h o v := fun U m a w r => by
  obtain ⟨x, h1, h2⟩ := y U m a w r
  exact ⟨x, h1, fun w' _ => h2 w' (fun e => by cases e)⟩
theorem Yl.mono {ρ : Bool} (y : Yl ρ E k B s h o v) : Yl true E k B s h o v := fun U m a w r => by
  obtain ⟨x, h1, h2⟩ := y U m a w r
  exact ⟨x, h1, fun w' hw => h2 w' (fun _ => hw rfl)⟩
theorem yX_ok {X : Fx} {c : Bool} (hX : X.tab = E.tab) (he : EqT E X.eqs) (h1 : yX X d s h.b o.op = some (c, v)) (hc : c = true) : Yl (rdO o.op) E k B s h o v := by
  obtain ⟨tab, eqs, wr, hd, lit⟩ := X
  dsimp only at hX he
  subst hX
  generalize ho : o.op = p at h1 ⊢
  unfold yX at h1
  dsimp only at h1
  split at h1
  · split at h1
    · rename_i hx; injection h1 with h1; simp only [Prod.mk.injEq] at h1; obtain ⟨_, rfl⟩ := h1
      exact Yl.move ho (evX_ok hx)
    · cases h1
  · split at h1
    · rename_i hx; injection h1 with h1; simp only [Prod.mk.injEq] at h1; obtain ⟨_, rfl⟩ := h1
      exact Yl.assign ho (evX_ok hx)
    · cases h1
  · split at h1
    · rename_i hc
      split at h1
      · rename_i hx hy; injection h1 with h1; simp only [Prod.mk.injEq] at h1; obtain ⟨_, rfl⟩ := h1
        exact Yl.pick ho (evX_ok hc) (evX_ok hx) (evX_ok hy)
      · cases h1
    · cases h1
  · split at h1
    · rename_i hx; exact loadX_ok ho (evX_ok hx) h1 hc
    · cases h1
  · split at h1
    · rename_i hx; exact fieldAddrX_ok ho (evX_ok hx) h1
    · cases h1
  · split at h1
    · rename_i hx; exact fieldX_ok ho (evX_ok hx) h1
    · cases h1
  · split at h1
    · rename_i hx hy; exact indexX_ok ho (evX_ok hx) (evX_ok hy) h1 hc
    · cases h1
  · split at h1
    · rename_i hx hy; exact indexAddrX_ok ho (evX_ok hx) (evX_ok hy) h1 hc
    · cases h1
  · split at h1
    · rename_i hx hy; exact binX_ok he ho (evX_ok hx) (evX_ok hy) h1 hc
    · cases h1
  · split at h1
    · rename_i hx; exact unX_ok ho (evX_ok hx) h1 hc
    · cases h1
  · split at h1
    · rename_i hx
      split at h1
      · rename_i hg; injection h1 with h1; simp only [Prod.mk.injEq] at h1; obtain ⟨_, rfl⟩ := h1
        rw [getN_eq] at hg
        exact Yl.extract ho (evX_ok hx) hg
      · cases h1
    · cases h1
  · split at h1
    · rename_i hx; exact convX_ok ho (evX_ok hx) h1 hc
    · cases h1
  · exact buildX_ok ho h1
  · split at h1
    · rename_i hx; exact sliceX_ok ho (evX_ok hx) h1 hc
    · cases h1
  · split at h1
    · rename_i hx; exact arrSX_ok ho (evX_ok hx) h1 hc
    · cases h1
  · split at h1
    · split at h1
      · rename_i h2 h3; injection h1 with h1; simp only [Prod.mk.injEq] at h1; obtain ⟨_, rfl⟩ := h1
        rw [evXs_eq] at h2 h3
        exact Yl.makeFunc ho h2 h3
      · cases h1
    · cases h1
  · split at h1
    · rename_i hx
      split at h1
      · rename_i hp; injection h1 with h1; simp only [Prod.mk.injEq] at h1; obtain ⟨_, rfl⟩ := h1
        exact Yl.nilCheck ho (evX_ok hx) hp
      · cases h1
    · cases h1
  · split at h1
    · rename_i hx; exact lenX_ok ho (by simp) (evX_ok hx) h1
    · cases h1
  · split at h1
    · rename_i hx hy; exact mmX_max ho (evX_ok hx) (evX_ok hy) h1
    · cases h1
  · split at h1
    · rename_i hx hy; exact mmX_min ho (evX_ok hx) (evX_ok hy) h1
    · cases h1
  · cases h1
end
end Go.Proofs.Ytmgckodihnmjoaa
