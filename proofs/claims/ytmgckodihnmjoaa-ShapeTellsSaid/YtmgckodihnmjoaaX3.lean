/-
  The reckoner: what an operation yields, and under which condition. Conditions: none.
-/
import Derived.Test.YtmgckodihnmjoaaX2
set_option linter.unusedVariables false
set_option linter.unusedSimpArgs false
set_option maxRecDepth 20000
namespace Go.Proofs.Ytmgckodihnmjoaa
open Go.RowKit

section
variable {E : Env} {k B : Nat} {s s' : Slots} {h h' : Hp} {Q Q' : Post} {U : Nat → Prop} {m : Nat → Option Nat} {a : Act} {w w' : World} {o : Oper} {v : V} {d n : Nat} {t u e : TypeId} {td ed : TypeDesc} {tz tb ez eb : Nat} {tr er : Option Value} {x y : Operand} {ρ : Bool} {ops : Array Oper} {rest : List Oper}

noncomputable def lkr {α : Type} (l : List (Nat × α)) (i : Nat) : Option α := List.rec none (fun p _ ih => cond (Nat.beq p.1 i) (some p.2) ih) l
theorem lkr_eq {α : Type} (l : List (Nat × α)) (i : Nat) : lkr l i = lk l i := by
  induction l with
  | nil => rfl
  | cons p r ih =>
    obtain ⟨j, v⟩ := p
    show cond (Nat.beq j i) (some v) (lkr r i) = _
    rw [ih]; rfl
noncomputable def evX (s : Slots) : Operand → Option V
  | .tmp t => lkr s t
  | .const c => absV c
  | .func f => some (.d (.fn f))
  | .global _ => none
theorem evX_eq (s : Slots) (x : Operand) : evX s x = evO s x := by cases x <;> simp [evX, evO, lkr_eq]
theorem evX_ok {s : Slots} {x : Operand} {v : V} (h : evX s x = some v) : evO s x = some v := by rw [← evX_eq]; exact h

/-- A number that an operation comes to: as it is, if its kind holds it (or wrapped round). -/
def ar (wr : Bool) (k : IntKind) (i : Int) : Bool × V := match wr with
  | true => (true, .d (.int k (k.wrap i)))
  | false => (inRb k i, .d (.int k i))
theorem ar_ok {wr : Bool} {k : IntKind} {i : Int} {c : Bool} {v : V} (h : ar wr k i = (c, v)) (hc : c = true) : ∃ j, v = .d (.int k j) ∧ k.wrap i = j := by
  cases wr
  · simp only [ar, Prod.mk.injEq] at h
    obtain ⟨h1, rfl⟩ := h
    exact ⟨i, rfl, wrap_eq (inRb_iff.1 (h1 ▸ hc))⟩
  · simp only [ar, Prod.mk.injEq] at h
    exact ⟨_, h.2.symm, rfl⟩
/-- Of two numbers, when both are at hand (so that the kernel leaves it alone till then). -/
noncomputable def stk2 (f : Int → Int → Int) (i j : Int) : Int := Int.rec (motive := fun _ => Int) (fun a => Int.rec (motive := fun _ => Int) (fun b => f (.ofNat a) (.ofNat b)) (fun b => f (.ofNat a) (.negSucc b)) j) (fun a => Int.rec (motive := fun _ => Int) (fun b => f (.negSucc a) (.ofNat b)) (fun b => f (.negSucc a) (.negSucc b)) j) i
theorem stk2_eq (f : Int → Int → Int) (i j : Int) : stk2 f i j = f i j := by cases i <;> cases j <;> rfl
noncomputable def andK (k : IntKind) (i j : Int) : Int := stk2 (fun i j => k.wrap ((BitVec.ofInt k.bits i &&& BitVec.ofInt k.bits j).toNat)) i j
noncomputable def orK (k : IntKind) (i j : Int) : Int := stk2 (fun i j => k.wrap ((BitVec.ofInt k.bits i ||| BitVec.ofInt k.bits j).toNat)) i j
noncomputable def xorK (k : IntKind) (i j : Int) : Int := stk2 (fun i j => k.wrap ((BitVec.ofInt k.bits i ^^^ BitVec.ofInt k.bits j).toNat)) i j
noncomputable def andNotK (k : IntKind) (i j : Int) : Int := stk2 (fun i j => k.wrap ((BitVec.ofInt k.bits i &&& ~~~ (BitVec.ofInt k.bits j)).toNat)) i j
theorem andK_eq (k : IntKind) (i j : Int) : andK k i j = k.wrap ((BitVec.ofInt k.bits i &&& BitVec.ofInt k.bits j).toNat) := stk2_eq _ i j
theorem orK_eq (k : IntKind) (i j : Int) : orK k i j = k.wrap ((BitVec.ofInt k.bits i ||| BitVec.ofInt k.bits j).toNat) := stk2_eq _ i j
theorem xorK_eq (k : IntKind) (i j : Int) : xorK k i j = k.wrap ((BitVec.ofInt k.bits i ^^^ BitVec.ofInt k.bits j).toNat) := stk2_eq _ i j
theorem andNotK_eq (k : IntKind) (i j : Int) : andNotK k i j = k.wrap ((BitVec.ofInt k.bits i &&& ~~~ (BitVec.ofInt k.bits j)).toNat) := stk2_eq _ i j
/-- Two numbers. -/
noncomputable def binI (wr : Bool) (op : BinOp) (k : IntKind) (i j : Int) : Bool × V := match op with
  | .add => ar wr k (i + j)
  | .sub => ar wr k (i - j)
  | .mul => ar wr k (i * j)
  | .quo => (!decide (j = 0) && !decide (j = -1), .d (.int k (i.tdiv j)))
  | .rem => (!decide (j = 0), .d (.int k (i.tmod j)))
  | .and => (true, .d (.int k (andK k i j)))
  | .or => (true, .d (.int k (orK k i j)))
  | .xor => (true, .d (.int k (xorK k i j)))
  | .andNot => (true, .d (.int k (andNotK k i j)))
  | .lss => (true, vb (ltZ i j))
  | .leq => (true, vb (leZ i j))
  | .gtr => (true, vb (ltZ j i))
  | .geq => (true, vb (leZ j i))
  | .eql => (true, vb (decide (i = j)))
  | .neq => (true, vb (!decide (i = j)))
  | _ => (false, .un)
theorem not_dec {p : Prop} [Decidable p] (h : (!decide p) = true) : ¬ p := by simpa using h
theorem tdivR {q : IntKind} {i j : Int} (h : inR q i) (h0 : j ≠ 0) (h1 : j ≠ -1) (hs : loK q ≠ 0) : inR q (i.tdiv j) := by
  rw [inR_iff] at h ⊢
  have e : (i.tdiv j).natAbs = i.natAbs / j.natAbs := Int.natAbs_tdiv ..
  have h2 : 2 ≤ j.natAbs ∨ j = 1 := by omega
  rcases h2 with h2 | rfl
  · have h3 : i.natAbs / j.natAbs ≤ i.natAbs / 2 := Nat.div_le_div_left h2 (by omega)
    cases q <;> first | exact absurd rfl hs | (simp only [loK, hiK] at h ⊢; omega)
  · simp; exact h
theorem Yl.shlE {q q' : IntKind} {i j : Int} (ho : o.op = .binOp .shl t x y u) (hx : evO s x = some (.d (.int q i))) (hy : evO s y = some (.d (.int q' j))) (h0 : 0 ≤ j) (h1 : j ≤ q.bits) (hc : inR q (i * 2 ^ j.toNat)) : Yl ρ E k B s h o (.d (.int q (i * 2 ^ j.toNat))) :=
  Yl.shl ho hx hy h0 (by rw [Nat.min_eq_left (by omega)]; exact wrap_eq hc)
theorem Yl.shlW {q q' : IntKind} {i j : Int} (ho : o.op = .binOp .shl t x y u) (hx : evO s x = some (.d (.int q i))) (hy : evO s y = some (.d (.int q' j))) (h0 : 0 ≤ j) (h1 : j ≤ q.bits) : Yl ρ E k B s h o (.d (.int q (q.wrap (i * 2 ^ j.toNat)))) :=
  Yl.shl ho hx hy h0 (by rw [Nat.min_eq_left (by omega)])
theorem Yl.shrE {q q' : IntKind} {i j : Int} (ho : o.op = .binOp .shr t x y u) (hx : evO s x = some (.d (.int q i))) (hy : evO s y = some (.d (.int q' j))) (h0 : 0 ≤ j) (h1 : j ≤ q.bits) : Yl ρ E k B s h o (.d (.int q (i / 2 ^ j.toNat))) :=
  Yl.shr ho hx hy h0 (by rw [Nat.min_eq_left (by omega)]; exact Int.fdiv_eq_ediv_of_nonneg _ (by exact_mod_cast Nat.zero_le _))
theorem binI_ok {wr c : Bool} {op : BinOp} {q : IntKind} {i j : Int} (ho : o.op = .binOp op t x y u) (hx : evO s x = some (.d (.int q i))) (hy : evO s y = some (.d (.int q j))) (hs : op ≠ .shl ∧ op ≠ .shr) (h1 : binI wr op q i j = (c, v)) (hc : c = true) (hu : op = .quo → loK q ≠ 0) : Yl ρ E k B s h o v := by
  cases op <;> simp only [binI, Prod.mk.injEq] at h1
  · obtain ⟨z, rfl, hz⟩ := ar_ok h1 hc; exact Yl.add ho hx hy hz
  · obtain ⟨z, rfl, hz⟩ := ar_ok h1 hc; exact Yl.sub ho hx hy hz
  · obtain ⟨z, rfl, hz⟩ := ar_ok h1 hc; exact Yl.mul ho hx hy hz
  · obtain ⟨h1, rfl⟩ := h1
    subst h1
    obtain ⟨h2, h3⟩ := and_split hc
    intro U m a w r
    exact Yl.quo ho hx hy (not_dec h2) (wrap_eq (tdivR (r.evIntR hx) (not_dec h2) (not_dec h3) (hu rfl))) U m a w r
  · obtain ⟨h1, rfl⟩ := h1
    subst h1
    exact Yl.rem ho hx hy (not_dec hc) rfl
  · obtain ⟨_, rfl⟩ := h1; exact Yl.and ho hx hy (andK_eq _ _ _).symm
  · obtain ⟨_, rfl⟩ := h1; exact Yl.or ho hx hy (orK_eq _ _ _).symm
  · obtain ⟨_, rfl⟩ := h1; exact Yl.xor ho hx hy (xorK_eq _ _ _).symm
  · exact absurd rfl hs.1
  · exact absurd rfl hs.2
  · obtain ⟨_, rfl⟩ := h1; exact Yl.andNot ho hx hy (andNotK_eq _ _ _).symm
  · obtain ⟨_, rfl⟩ := h1; exact Yl.eql ho hx hy
  · obtain ⟨_, rfl⟩ := h1; exact Yl.neq ho hx hy
  · obtain ⟨_, rfl⟩ := h1; rw [ltZ_eq]; exact Yl.lss ho hx hy
  · obtain ⟨_, rfl⟩ := h1; rw [leZ_eq]; exact Yl.leq ho hx hy
  · obtain ⟨_, rfl⟩ := h1; rw [ltZ_eq]; exact Yl.gtr ho hx hy
  · obtain ⟨_, rfl⟩ := h1; rw [leZ_eq]; exact Yl.geq ho hx hy

/-- Pointers that are nil, or not. -/
def ptrN : V → Option Bool
  | .d .nilp => some true
  | .d (.lptr _) => some false
  | .ptr _ _ => some false
  | .el _ _ _ _ => some false
  | _ => none
def isPtrD : TypeDesc → Bool
  | .pointer _ => true
  | _ => false
theorem isPtrD_ok {d : TypeDesc} (h : isPtrD d = true) : ∃ e, d = .pointer e := by cases d <;> first | exact ⟨_, rfl⟩ | cases h
theorem ptrN_ok {U : Nat → Prop} {m : Nat → Option Nat} {n : Nat} {w : World} {v : V} {r : Value} {b : Bool} (h : VR U m n w v r) (hb : ptrN v = some b) : (b = true ∧ r = .pointer none) ∨ (b = false ∧ ∃ a, r = .pointer (some a)) := by
  cases h with
  | d h => cases h <;> simp [ptrN] at hb <;> subst hb <;> simp
  | ptr => simp [ptrN] at hb; subst hb; exact .inr ⟨rfl, _, rfl⟩
  | el => simp [ptrN] at hb; subst hb; exact .inr ⟨rfl, _, rfl⟩
  | _ => simp [ptrN] at hb
theorem ptr_equalIn {p1 p2 : Option Addr} {el : TypeId} (ht : lk E.tab t = some ⟨.pointer el, tz, tb, tr⟩) (hb : p1 = none ∨ p2 = none) (d : Nat) (w' : World) : (Op.equalIn (d + 1) t (.pointer p1) (.pointer p2)).run E.P w' = .ok (p1.isNone && p2.isNone) w' := by
  have hu := und ht w'
  unfold Op.equalIn
  rw [Sem.run_bind, hu]
  cases p1 <;> cases p2 <;> simp_all
theorem ptr_equal {b1 b2 : Bool} {v1 v2 : V} {r1 r2 : Value} (ht : lk E.tab t = some ⟨td, tz, tb, tr⟩) (hd : isPtrD td = true) (h1 : VR U m n w v1 r1) (h2 : VR U m n w v2 r2) (e1 : ptrN v1 = some b1) (e2 : ptrN v2 = some b2) (hb : (b1 || b2) = true) (w' : World) : (Op.equal t r1 r2).run E.P w' = .ok (b1 && b2) w' := by
  obtain ⟨el, rfl⟩ := isPtrD_ok hd
  rcases ptrN_ok h1 e1 with ⟨rfl, rfl⟩ | ⟨rfl, a1, rfl⟩ <;> rcases ptrN_ok h2 e2 with ⟨rfl, rfl⟩ | ⟨rfl, a2, rfl⟩
  · exact ptr_equalIn ht (.inl rfl) 9999 w'
  · exact ptr_equalIn ht (.inl rfl) 9999 w'
  · exact ptr_equalIn ht (.inr rfl) 9999 w'
  · cases hb
theorem Yl.eqP {b1 b2 : Bool} {v1 v2 : V} (ho : o.op = .binOp .eql t x y u) (hx : evO s x = some v1) (hy : evO s y = some v2) (ht : lk E.tab t = some ⟨td, tz, tb, tr⟩) (hd : isPtrD td = true) (e1 : ptrN v1 = some b1) (e2 : ptrN v2 = some b2) (hb : (b1 || b2) = true) : Yl ρ E k B s h o (vb (b1 && b2)) := fun U m a w r => by
  have h1 := r.opnd hx
  have h2 := r.opnd hy
  refine ⟨.bool (b1 && b2), .d (.bool _), fun w' _ => ?_⟩
  have e := ptr_equal ht hd h1 h2 e1 e2 hb w'
  have g1 : ∃ p, a.eval x = .pointer p := by rcases ptrN_ok h1 e1 with ⟨_, h⟩ | ⟨_, _, h⟩ <;> exact ⟨_, h⟩
  have g2 : ∃ p, a.eval y = .pointer p := by rcases ptrN_ok h2 e2 with ⟨_, h⟩ | ⟨_, _, h⟩ <;> exact ⟨_, h⟩
  obtain ⟨p1, g1⟩ := g1
  obtain ⟨p2, g2⟩ := g2
  rw [g1, g2] at e
  simp only [execOp, ho, g1, g2, Sem.run_bind, eqGuard, binOp, Sem.run_pure, Result.andThen_ok]
  simp
  rw [e]
  simp
theorem Yl.neqP {b1 b2 : Bool} {v1 v2 : V} (ho : o.op = .binOp .neq t x y u) (hx : evO s x = some v1) (hy : evO s y = some v2) (ht : lk E.tab t = some ⟨td, tz, tb, tr⟩) (hd : isPtrD td = true) (e1 : ptrN v1 = some b1) (e2 : ptrN v2 = some b2) (hb : (b1 || b2) = true) : Yl ρ E k B s h o (vb (!(b1 && b2))) := fun U m a w r => by
  have h1 := r.opnd hx
  have h2 := r.opnd hy
  refine ⟨.bool (!(b1 && b2)), .d (.bool _), fun w' _ => ?_⟩
  have e := ptr_equal ht hd h1 h2 e1 e2 hb w'
  have g1 : ∃ p, a.eval x = .pointer p := by rcases ptrN_ok h1 e1 with ⟨_, h⟩ | ⟨_, _, h⟩ <;> exact ⟨_, h⟩
  have g2 : ∃ p, a.eval y = .pointer p := by rcases ptrN_ok h2 e2 with ⟨_, h⟩ | ⟨_, _, h⟩ <;> exact ⟨_, h⟩
  obtain ⟨p1, g1⟩ := g1
  obtain ⟨p2, g2⟩ := g2
  rw [g1, g2] at e
  simp only [execOp, ho, g1, g2, Sem.run_bind, eqGuard, binOp, Sem.run_pure, Result.andThen_ok]
  simp
  rw [e]
  simp
/-- The types that may be compared, with the kinds of their cells. -/
structure EqT (E : Env) (l : List (Nat × List Kd)) : Prop where
  ok : ∀ t ks, lk l t = some ks → EqTy E 10000 t ks ∧ E.P.eqGuardType E.P.depth t = false
def binE (tab : List (Nat × Ty)) (eqs : List (Nat × List Kd)) (t : Nat) (neg : Bool) (x y : V) : Option (Bool × V) :=
  match x, y with
  | .agg cs, .agg ds => match lk eqs t, lk tab t with
    | some ks, some ty => match aggD ty.d, eqF ks cs ds with
      | true, some bs => some (true, vb (match neg with | true => !allB bs | false => allB bs))
      | _, _ => none
    | _, _ => none
  | .d (.bool p), .d (.bool q) => match lk tab t with
    | some ⟨.bool, _, _, _⟩ => some (true, vb (match neg with | true => !decide (p = q) | false => decide (p = q)))
    | _ => none
  | .d (.str p), .d (.str q) => some (true, vb (match neg with | true => !(p.toList == q.toList) | false => p.toList == q.toList))
  | x, y => match ptrN x, ptrN y, lk tab t with
    | some b1, some b2, some ty => match isPtrD ty.d, b1 || b2 with
      | true, true => some (true, vb (match neg with | true => !(b1 && b2) | false => b1 && b2))
      | _, _ => none
    | _, _, _ => none
theorem binE_eql {eqs : List (Nat × List Kd)} {v1 v2 : V} {c : Bool} (he : EqT E eqs) (ho : o.op = .binOp .eql t x y u) (hx : evO s x = some v1) (hy : evO s y = some v2) (h1 : binE E.tab eqs t false v1 v2 = some (c, v)) : Yl ρ E k B s h o v := by
  unfold binE at h1
  split at h1
  · split at h1
    · rename_i ks ty hk ht
      split at h1
      · rename_i bs hg hb
        injection h1 with h1; simp only [Prod.mk.injEq] at h1; obtain ⟨_, rfl⟩ := h1
        obtain ⟨td, tz, tb, tr⟩ := ty
        exact Yl.eqA ho hx hy ht hg (he.ok _ _ hk).1 (he.ok _ _ hk).2 hb
      · cases h1
    · cases h1
  · split at h1
    · rename_i ht
      injection h1 with h1; simp only [Prod.mk.injEq] at h1; obtain ⟨_, rfl⟩ := h1
      exact Yl.eqlB ho hx hy ht
    · cases h1
  · injection h1 with h1; simp only [Prod.mk.injEq] at h1; obtain ⟨_, rfl⟩ := h1
    exact Yl.eqlStr ho hx hy
  · split at h1
    · rename_i ty e1 e2 ht
      split at h1
      · rename_i hd hb
        injection h1 with h1; simp only [Prod.mk.injEq] at h1; obtain ⟨_, rfl⟩ := h1
        obtain ⟨td, tz, tb, tr⟩ := ty
        exact Yl.eqP ho hx hy ht hd e1 e2 hb
      · cases h1
    · cases h1
theorem binE_neq {eqs : List (Nat × List Kd)} {v1 v2 : V} {c : Bool} (he : EqT E eqs) (ho : o.op = .binOp .neq t x y u) (hx : evO s x = some v1) (hy : evO s y = some v2) (h1 : binE E.tab eqs t true v1 v2 = some (c, v)) : Yl ρ E k B s h o v := by
  unfold binE at h1
  split at h1
  · split at h1
    · rename_i ks ty hk ht
      split at h1
      · rename_i bs hg hb
        injection h1 with h1; simp only [Prod.mk.injEq] at h1; obtain ⟨_, rfl⟩ := h1
        obtain ⟨td, tz, tb, tr⟩ := ty
        exact Yl.neqA ho hx hy ht hg (he.ok _ _ hk).1 (he.ok _ _ hk).2 hb
      · cases h1
    · cases h1
  · split at h1
    · rename_i ht
      injection h1 with h1; simp only [Prod.mk.injEq] at h1; obtain ⟨_, rfl⟩ := h1
      exact Yl.neqB ho hx hy ht
    · cases h1
  · injection h1 with h1; simp only [Prod.mk.injEq] at h1; obtain ⟨_, rfl⟩ := h1
    exact Yl.neqStr ho hx hy
  · split at h1
    · rename_i ty e1 e2 ht
      split at h1
      · rename_i hd hb
        injection h1 with h1; simp only [Prod.mk.injEq] at h1; obtain ⟨_, rfl⟩ := h1
        obtain ⟨td, tz, tb, tr⟩ := ty
        exact Yl.neqP ho hx hy ht hd e1 e2 hb
      · cases h1
    · cases h1
def bitsK : IntKind → Int
  | .i8 | .u8 => 8 | .i16 | .u16 => 16 | .i32 | .u32 => 32 | .i64 | .u64 => 64
theorem bitsK_eq (k : IntKind) : bitsK k = k.bits := by cases k <;> rfl
/-- Any two values. -/
noncomputable def binX (tab : List (Nat × Ty)) (eqs : List (Nat × List Kd)) (wr : Bool) (op : BinOp) (t : Nat) (x y : V) : Option (Bool × V) :=
  match op with
  | .shl => match x, y with
    | .d (.int k i), .d (.int _ j) => match wr with
      | true => some (leZ 0 j && leZ j (bitsK k), .d (.int k (k.wrap (i * 2 ^ j.toNat))))
      | false => some ((leZ 0 j && leZ j (bitsK k)) && inRb k (i * 2 ^ j.toNat), .d (.int k (i * 2 ^ j.toNat)))
    | _, _ => none
  | .shr => match x, y with
    | .d (.int k i), .d (.int _ j) => some (leZ 0 j && leZ j (bitsK k), .d (.int k (i / 2 ^ j.toNat)))
    | _, _ => none
  | op => match x with
    | .d (.int k i) => match y with
      | .d (.int k' j) => match sameK k k' with
        | true => match op with
          | .quo => match k with
            | .i64 | .i32 | .i16 | .i8 => some (binI wr op k i j)
            | _ => none
          | op => some (binI wr op k i j)
        | false => none
      | _ => none
    | x => match op with
      | .eql => binE tab eqs t false x y
      | .neq => binE tab eqs t true x y
      | _ => none
theorem binX_ok {eqs : List (Nat × List Kd)} {wr : Bool} {op : BinOp} {v1 v2 : V} {c : Bool} (he : EqT E eqs) (ho : o.op = .binOp op t x y u) (hx : evO s x = some v1) (hy : evO s y = some v2) (h1 : binX E.tab eqs wr op t v1 v2 = some (c, v)) (hc : c = true) : Yl ρ E k B s h o v := by
  unfold binX at h1
  split at h1
  · split at h1
    · split at h1
      · injection h1 with h1; simp only [Prod.mk.injEq] at h1; obtain ⟨h1, rfl⟩ := h1
        subst h1
        obtain ⟨h2, h3⟩ := and_split hc
        simp only [leZ_eq, decide_eq_true_eq, bitsK_eq] at h2 h3
        exact Yl.shlW ho hx hy h2 h3
      · injection h1 with h1; simp only [Prod.mk.injEq] at h1; obtain ⟨h1, rfl⟩ := h1
        subst h1
        obtain ⟨h2, h4⟩ := and_split hc
        obtain ⟨h2, h3⟩ := and_split h2
        simp only [leZ_eq, decide_eq_true_eq, bitsK_eq] at h2 h3
        exact Yl.shlE ho hx hy h2 h3 (inRb_iff.1 h4)
    · cases h1
  · split at h1
    · injection h1 with h1; simp only [Prod.mk.injEq] at h1; obtain ⟨h1, rfl⟩ := h1
      subst h1
      obtain ⟨h2, h3⟩ := and_split hc
      simp only [leZ_eq, decide_eq_true_eq, bitsK_eq] at h2 h3
      exact Yl.shrE ho hx hy h2 h3
    · cases h1
  · rename_i hs1 hs2
    split at h1
    · split at h1
      · split at h1
        · rename_i hk
          have := sameK_eq hk
          subst this
          split at h1
          · split at h1 <;> first
              | (injection h1 with h1; exact binI_ok ho hx hy ⟨hs1, hs2⟩ h1 hc (fun _ => by decide))
              | cases h1
          · rename_i hq
            injection h1 with h1
            exact binI_ok ho hx hy ⟨hs1, hs2⟩ h1 hc (fun h => absurd h hq)
        · cases h1
      · cases h1
    · split at h1
      · exact binE_eql he ho hx hy h1
      · exact binE_neq he ho hx hy h1
      · cases h1
end
end Go.Proofs.Ytmgckodihnmjoaa
