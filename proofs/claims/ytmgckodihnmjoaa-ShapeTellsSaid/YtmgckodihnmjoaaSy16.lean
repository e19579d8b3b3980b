/-
  The logic's rules: structs compared, parts of slices, function values, calls that read what is at hand, least and greatest. Conditions: none.
-/
import Derived.Test.YtmgckodihnmjoaaSy15
set_option linter.unusedVariables false
set_option linter.unusedSimpArgs false
set_option maxRecDepth 20000
namespace Go.Proofs.Ytmgckodihnmjoaa
open Go.RowKit

def sameK : IntKind → IntKind → Bool
  | .i8, .i8 | .i16, .i16 | .i32, .i32 | .i64, .i64 | .u8, .u8 | .u16, .u16 | .u32, .u32 | .u64, .u64 => true
  | _, _ => false
theorem sameK_eq {a b : IntKind} (h : sameK a b = true) : a = b := by cases a <;> cases b <;> first | rfl | cases h
/-- Cell by cell, whether they are the same. -/
def eqF : List Kd → List V → List V → Option (List Bool)
  | [], [], [] => some []
  | .int :: ks, .d (.int k a) :: cs, .d (.int k' b) :: ds => match sameK k k', eqF ks cs ds with
    | true, some l => some (decide (a = b) :: l)
    | _, _ => none
  | .bool :: ks, .d (.bool a) :: cs, .d (.bool b) :: ds => match eqF ks cs ds with
    | some l => some (decide (a = b) :: l)
    | none => none
  | .str :: ks, .d (.str a) :: cs, .d (.str b) :: ds => match eqF ks cs ds with
    | some l => some ((a == b) :: l)
    | none => none
  | _, _, _ => none
def ptrLike : V → Bool
  | .ptr _ _ => true
  | .d (.lptr _) => true
  | .d (.fn _) => true
  | .fn _ _ _ => true
  | _ => false
def allB : List Bool → Bool
  | [] => true
  | [b] => b
  | b :: r => b && allB r
theorem allB_eq : ∀ l : List Bool, allB l = l.all id
  | [] => rfl
  | [b] => by simp [allB]
  | b :: c :: r => by simp only [allB, List.all_cons, id, allB_eq (c :: r)]

section
variable {E : Env} {k B : Nat} {s s' : Slots} {h h' : Hp} {Q Q' : Post} {U : Nat → Prop} {m : Nat → Option Nat} {a : Act} {w w' : World} {o : Oper} {v : V} {d n : Nat} {t u e : TypeId} {td ed : TypeDesc} {tz tb ez eb : Nat} {tr er : Option Value} {x y : Operand} {ρ : Bool} {ops : Array Oper} {rest : List Oper}

theorem eqF_ok : ∀ {ks : List Kd} {cs ds : List V} {bs : List Bool} {xs ys : List Value}, eqF ks cs ds = some bs → PW (VR U m n w) cs xs → PW (VR U m n w) ds ys → KdL ks xs ys bs := by
  intro ks
  induction ks with
  | nil =>
    intro cs ds bs xs ys h1 h2 h3
    match cs, ds, h1 with
    | [], [], h1 =>
      simp only [eqF, Option.some.injEq] at h1; subst h1
      have e1 := h2.len; have e2 := h3.len
      have : xs = [] := List.eq_nil_of_length_eq_zero e1.symm
      have : ys = [] := List.eq_nil_of_length_eq_zero e2.symm
      subst_vars
      exact ⟨rfl, rfl, rfl, fun j k x y c e => by simp at e⟩
  | cons kd ks ih =>
    intro cs ds bs xs ys h1 h2 h3
    have step : ∀ (c d : V) (cs ds : List V) (x y : Value) (xs ys : List Value) (b : Bool) (l : List Bool), eqF ks cs ds = some l → PW (VR U m n w) (c :: cs) (x :: xs) → PW (VR U m n w) (d :: ds) (y :: ys) → isKd kd x y b → KdL (kd :: ks) (x :: xs) (y :: ys) (b :: l) := fun c d cs ds x y xs ys b l g1 g2 g3 g4 => by
      have := ih g1 (xs := xs) (ys := ys) ⟨by simpa using g2.len, fun j c v e1 e2 => g2.at_ (j + 1) c v (by simpa using e1) (by simpa using e2)⟩ ⟨by simpa using g3.len, fun j c v e1 e2 => g3.at_ (j + 1) c v (by simpa using e1) (by simpa using e2)⟩
      refine ⟨by simp [this.lx], by simp [this.ly], by simp [this.lc], fun j k x' y' c' e1 e2 e3 e4 => ?_⟩
      cases j with
      | zero => simp at e1 e2 e3 e4; subst e1; subst e2; subst e3; subst e4; exact g4
      | succ j => exact this.at_ j k x' y' c' (by simpa using e1) (by simpa using e2) (by simpa using e3) (by simpa using e4)
    have hd2 : ∀ (c : V) (cs : List V) (xs : List Value), PW (VR U m n w) (c :: cs) xs → ∃ x r, xs = x :: r ∧ VR U m n w c x := fun c cs xs g => by
      match xs, g.len with
      | x :: r, _ => exact ⟨x, r, rfl, g.at_ 0 c x rfl rfl⟩
    unfold eqF at h1
    split at h1
    · rename_i e1; cases e1
    · rename_i k a cs k' b ds e1
      injection e1 with e1 e2; subst e1; subst e2
      split at h1
      · rename_i l hk hl
        injection h1 with h1; subst h1
        obtain ⟨x, r, rfl, hx⟩ := hd2 _ _ _ h2
        obtain ⟨y, r', rfl, hy⟩ := hd2 _ _ _ h3
        have hkk := sameK_eq hk; subst hkk
        cases hx with | d hx =>
        cases hx
        cases hy with | d hy =>
        cases hy
        exact step _ _ _ _ _ _ _ _ _ _ hl h2 h3 ⟨k, a, b, rfl, rfl, rfl⟩
      · cases h1
    · rename_i a cs b ds e1
      injection e1 with e1 e2; subst e1; subst e2
      split at h1
      · rename_i l hl
        injection h1 with h1; subst h1
        obtain ⟨x, r, rfl, hx⟩ := hd2 _ _ _ h2
        obtain ⟨y, r', rfl, hy⟩ := hd2 _ _ _ h3
        cases hx with | d hx =>
        cases hx
        cases hy with | d hy =>
        cases hy
        exact step _ _ _ _ _ _ _ _ _ _ hl h2 h3 ⟨a, b, rfl, rfl, rfl⟩
      · cases h1
    · rename_i a cs b ds e1
      injection e1 with e1 e2; subst e1; subst e2
      split at h1
      · rename_i l hl
        injection h1 with h1; subst h1
        obtain ⟨x, r, rfl, hx⟩ := hd2 _ _ _ h2
        obtain ⟨y, r', rfl, hy⟩ := hd2 _ _ _ h3
        cases hx with | d hx =>
        cases hx
        cases hy with | d hy =>
        cases hy
        exact step _ _ _ _ _ _ _ _ _ _ hl h2 h3 ⟨a, b, rfl, rfl, rfl⟩
      · cases h1
    · cases h1
theorem agg_equal {ks : List Kd} {cs ds : List V} {bs : List Bool} (ht : lk E.tab t = some ⟨td, tz, tb, tr⟩) (hg : aggD td = true) (hk : EqTy E 10000 t ks) (hb : eqF ks cs ds = some bs) {xs ys : Array Value} (hx : VR U m n w (.agg cs) (.agg xs)) (hy : VR U m n w (.agg ds) (.agg ys)) (w1 : World) :
    (Op.equal t (.agg xs) (.agg ys)).run E.P w1 = .ok (allB bs) w1 := by
  cases hx with | agg lx ax =>
  cases hy with | agg ly ay =>
  have := run_equal 10000 t ks hk xs.toList ys.toList bs (eqF_ok hb ⟨by simpa using lx, fun j c v e1 e2 => ax j c v e1 (by simpa using e2)⟩ ⟨by simpa using ly, fun j c v e1 e2 => ay j c v e1 (by simpa using e2)⟩) w1 _ ht
  rw [allB_eq]
  simpa [wrapG, hg, Op.equal, Op.maxDepth] using this
theorem agg_guard {op : BinOp} (hg : E.P.eqGuardType E.P.depth t = false) (hop : op = .eql ∨ op = .neq) (xs ys : Array Value) (w1 : World) : (eqGuard op t x y (.agg xs) (.agg ys)).run E.P w1 = .ok () w1 := by
  have hpr : (program).run E.P w1 = .ok E.P w1 := rfl
  rcases hop with rfl | rfl <;> simp [eqGuard, hpr, hg]
theorem Yl.eqA {ks : List Kd} {cs ds : List V} {bs : List Bool} (ho : o.op = .binOp .eql t x y u) (hx : evO s x = some (.agg cs)) (hy : evO s y = some (.agg ds)) (ht : lk E.tab t = some ⟨td, tz, tb, tr⟩) (hg : aggD td = true) (hk : EqTy E 10000 t ks) (hq : E.P.eqGuardType E.P.depth t = false) (hb : eqF ks cs ds = some bs) : Yl ρ E k B s h o (vb (allB bs)) := fun U m a w r => by
  have h1 := r.opnd hx
  have h2 := r.opnd hy
  generalize hxe : a.eval x = xv at h1
  generalize hye : a.eval y = yv at h2
  refine ⟨.bool (allB bs), .d (.bool _), fun w' _ => ?_⟩
  have h1' := h1; have h2' := h2
  cases h1 with | agg =>
  cases h2 with | agg =>
  rename_i xs _ _ ys _ _
  have e := agg_equal ht hg hk hb h1' h2' w'
  simp only [execOp, ho, hxe, hye, Sem.run_bind, agg_guard hq (.inl rfl), Result.andThen_ok, binOp, e, Sem.run_pure]
theorem Yl.neqA {ks : List Kd} {cs ds : List V} {bs : List Bool} (ho : o.op = .binOp .neq t x y u) (hx : evO s x = some (.agg cs)) (hy : evO s y = some (.agg ds)) (ht : lk E.tab t = some ⟨td, tz, tb, tr⟩) (hg : aggD td = true) (hk : EqTy E 10000 t ks) (hq : E.P.eqGuardType E.P.depth t = false) (hb : eqF ks cs ds = some bs) : Yl ρ E k B s h o (vb (!allB bs)) := fun U m a w r => by
  have h1 := r.opnd hx
  have h2 := r.opnd hy
  generalize hxe : a.eval x = xv at h1
  generalize hye : a.eval y = yv at h2
  refine ⟨.bool (!allB bs), .d (.bool _), fun w' _ => ?_⟩
  have h1' := h1; have h2' := h2
  cases h1 with | agg =>
  cases h2 with | agg =>
  rename_i xs _ _ ys _ _
  have e := agg_equal ht hg hk hb h1' h2' w'
  simp only [execOp, ho, hxe, hye, Sem.run_bind, agg_guard hq (.inr rfl), Result.andThen_ok, binOp, e, Sem.run_pure]
/-- Bools compared. -/
theorem Yl.eqlB {b1 b2 : Bool} (ho : o.op = .binOp .eql t x y u) (hx : evO s x = some (vb b1)) (hy : evO s y = some (vb b2)) (ht : lk E.tab t = some ⟨.bool, tz, tb, tr⟩) : Yl ρ E k B s h o (vb (decide (b1 = b2))) := fun U m a w r => by
  refine ⟨_, .d (.bool _), fun w' _ => ?_⟩
  have e : (Op.equal t (.bool b1) (.bool b2)).run E.P w' = .ok (b1 == b2) w' := by rw [Op.equal, Op.maxDepth, Op.equalIn]; simp [und ht w']
  have ed : (b1 == b2) = decide (b1 = b2) := by cases b1 <;> cases b2 <;> rfl
  rw [ed] at e
  simp [execOp, ho, r.evBool hx, r.evBool hy, eqGuard, binOp, e]
theorem Yl.neqB {b1 b2 : Bool} (ho : o.op = .binOp .neq t x y u) (hx : evO s x = some (vb b1)) (hy : evO s y = some (vb b2)) (ht : lk E.tab t = some ⟨.bool, tz, tb, tr⟩) : Yl ρ E k B s h o (vb (!decide (b1 = b2))) := fun U m a w r => by
  refine ⟨_, .d (.bool _), fun w' _ => ?_⟩
  have e : (Op.equal t (.bool b1) (.bool b2)).run E.P w' = .ok (b1 == b2) w' := by rw [Op.equal, Op.maxDepth, Op.equalIn]; simp [und ht w']
  have ed : (b1 == b2) = decide (b1 = b2) := by cases b1 <;> cases b2 <;> rfl
  rw [ed] at e
  simp [execOp, ho, r.evBool hx, r.evBool hy, eqGuard, binOp, e]
theorem Yl.eqlStr {b1 b2 : ByteArray} (ho : o.op = .binOp .eql t x y u) (hx : evO s x = some (.d (.str b1))) (hy : evO s y = some (.d (.str b2))) : Yl ρ E k B s h o (vb (b1.toList == b2.toList)) := fun U m a w r =>
  ⟨_, .d (.bool _), fun w' _ => by simp [execOp, ho, r.evStr hx, r.evStr hy, eqGuard, binOp, Op.stringOp]⟩
theorem Yl.neqStr {b1 b2 : ByteArray} (ho : o.op = .binOp .neq t x y u) (hx : evO s x = some (.d (.str b1))) (hy : evO s y = some (.d (.str b2))) : Yl ρ E k B s h o (vb (!(b1.toList == b2.toList))) := fun U m a w r =>
  ⟨_, .d (.bool _), fun w' _ => by simp [execOp, ho, r.evStr hx, r.evStr hy, eqGuard, binOp, Op.stringOp]⟩
/-- Function values. -/
theorem Yl.makeFunc {f : FuncId} {xs ys : Array Operand} {l1 l2 : List V} (ho : o.op = .makeFunc (.func f) xs ys) (h1 : evL s xs.toList = some l1) (h2 : evL s ys.toList = some l2) : Yl ρ E k B s h o (.fn f l1 l2) := fun U m a w r => by
  have e1 := evL_ok r xs.toList l1 h1
  have e2 := evL_ok r ys.toList l2 h2
  rw [show (xs.toList.map a.eval).toArray = xs.map a.eval by rw [← Array.toList_map]] at e1
  rw [show (ys.toList.map a.eval).toArray = ys.map a.eval by rw [← Array.toList_map]] at e2
  exact ⟨.func (.func f) (xs.map a.eval) (ys.map a.eval), .fn e1.len e2.len e1.at_ e2.at_, fun w' _ => by simp [execOp, ho, Instr.makeFunc]⟩
theorem Yl.nilCheck (ho : o.op = .nilCheck x) (hx : evO s x = some v) (hv : ptrLike v = true) : Yl ρ E k B s h o v := fun U m a w r => by
  have h1 := r.opnd hx
  generalize hxe : a.eval x = xv at h1
  refine ⟨xv, h1, fun w' _ => ?_⟩
  cases h1 with
  | ptr => simp [execOp, ho, hxe]
  | fn => simp [execOp, ho, hxe]
  | d h1 => cases h1 <;> first | (simp [ptrLike] at hv; done) | simp [execOp, ho, hxe]
  | un => cases hv
  | sl => cases hv
  | sl0 => cases hv
  | map => cases hv
  | el => cases hv
  | ifc => cases hv
  | agg => cases hv
  | tup => cases hv
/-- Least and greatest. -/
theorem Yl.max2 {q : IntKind} {i j c : Int} {ats : Array TypeId} (ho : o.op = .call { callee := .builtin .max, args := #[x, y], argTypes := ats }) (hx : evO s x = some (.d (.int q i))) (hy : evO s y = some (.d (.int q j))) (hc : (if j > i then j else i) = c) : Yl ρ E k B s h o (.d (.int q c)) := fun U m a w r =>
  ⟨_, .d (.int q c (by subst hc; split; exact r.evIntR hy; exact r.evIntR hx)), fun w' _ => by simp [execOp, ho, resolve, invoke, builtin, Builtin.max_, Builtin.max2, r.evInt hx, r.evInt hy, hc]⟩
theorem Yl.min2 {q : IntKind} {i j c : Int} {ats : Array TypeId} (ho : o.op = .call { callee := .builtin .min, args := #[x, y], argTypes := ats }) (hx : evO s x = some (.d (.int q i))) (hy : evO s y = some (.d (.int q j))) (hc : (if j < i then j else i) = c) : Yl ρ E k B s h o (.d (.int q c)) := fun U m a w r =>
  ⟨_, .d (.int q c (by subst hc; split; exact r.evIntR hy; exact r.evIntR hx)), fun w' _ => by simp [execOp, ho, resolve, invoke, builtin, Builtin.min_, Builtin.min2, r.evInt hx, r.evInt hy, hc]⟩

/-- A bound of a slice expression. -/
def bnd (s : Slots) (dflt : Nat) : Option Operand → Option Int
  | none => some dflt
  | some x => match evO s x with
    | some (.d (.int _ i)) => some i
    | _ => none
theorem run_bounds {P : Program} {g : Bool} {len cap : Nat} {lo hi : Option Operand} {l hh : Int} (r : SR k B U m s h a w) (hlo : bnd s 0 lo = some l) (hhi : bnd s len hi = some hh) (h0 : 0 ≤ l) (h1 : l ≤ hh) (h2 : hh ≤ cap) (hlc : len ≤ cap) (w1 : World) :
    (Instr.sliceBounds g len cap (lo.map a.eval) (hi.map a.eval) none).run P w1 = .ok (l.toNat, hh.toNat, cap) w1 := by
  have e1 : ∀ (x : Operand) (i : Int) (yy : Nat) (cd : BoundsCode), (∃ q, evO s x = some (.d (.int q i))) → 0 ≤ i → i ≤ yy → (Instr.sliceBound (a.eval x) yy cd).run P w1 = .ok i.toNat w1 := fun x i yy cd ⟨q, hq⟩ g0 g1 => by
    simp [Instr.sliceBound, r.evInt hq, asIntOf, g0, g1]
  have hb : ∀ (x : Operand) (df : Nat) (i : Int), bnd s df (some x) = some i → ∃ q, evO s x = some (.d (.int q i)) := fun x df i hx => by
    simp only [bnd] at hx
    split at hx
    · rename_i q j hq; injection hx with hx; subst hx; exact ⟨q, hq⟩
    · cases hx
  unfold Instr.sliceBounds
  cases hi with
  | none =>
    simp only [bnd, Option.some.injEq] at hhi
    cases lo with
    | none =>
      simp only [bnd, Option.some.injEq] at hlo
      subst hlo; subst hhi
      simp
    | some x =>
      simp only [Option.map_some, Option.map_none, Sem.run_pure, Sem.run_bind, Result.andThen_ok]
      rw [e1 x l len _ (hb x 0 l hlo) h0 (by omega)]
      subst hhi
      simp
  | some y =>
    cases lo with
    | none =>
      simp only [bnd, Option.some.injEq] at hlo
      simp only [Option.map_some, Option.map_none, Sem.run_pure, Sem.run_bind, Result.andThen_ok]
      rw [e1 y hh cap _ (hb y len hh hhi) (by omega) h2]
      subst hlo
      simp
    | some x =>
      simp only [Option.map_some, Option.map_none, Sem.run_pure, Sem.run_bind, Result.andThen_ok]
      rw [e1 y hh cap _ (hb y len hh hhi) (by omega) h2]
      simp only [Result.andThen_ok]
      rw [e1 x l hh.toNat _ (hb x 0 l hlo) h0 (by omega)]
      simp
/-- A part of a slice. -/
theorem Yl.sliceL {cs ds : List D} {lo hi : Option Operand} {l hh : Int} (ho : o.op = .slice t x lo hi none) (hx : evO s x = some (.d (.lst n cs))) (ht : lk E.tab t = some ⟨td, tz, tb, tr⟩) (hd : td = .slice e) (hte : lk E.tab e = some ⟨ed, ez, eb, er⟩) (hlo : bnd s 0 lo = some l) (hhi : bnd s n hi = some hh)
    (h0 : 0 ≤ l) (h1 : l ≤ hh) (h2 : hh ≤ n) (hds : (cs.drop (l.toNat * ez)).take ((hh.toNat - l.toNat) * ez) = ds) : Yl ρ E k B s h o (.d (.lst (hh.toNat - l.toNat) ds)) := fun U m a w r => by
  have h3 := r.evD hx
  generalize hv : a.eval x = v at h3
  cases h3 with | @lst _ _ A cap f hk hc ha hv2 =>
  have hu : ∀ w', (underlying t).run E.P w' = .ok (.slice e) w' := fun w' => by have := und ht w'; rw [hd] at this; exact this
  have run : ∀ w', (execOp a.eval o).run E.P w' = .ok (.value (.slice (if cap = l.toNat then A else A.map (·.add (l.toNat * ez))) (hh.toNat - l.toNat) (cap - l.toNat))) w' := fun w' => by
    have hb := run_bounds (P := E.P) (g := true) (len := n) (cap := cap) r hlo hhi h0 h1 (by omega) hk w'
    simp only [execOp, ho, Instr.sliceAt, hv, Sem.run_bind, hu w', Result.andThen_ok, Instr.slice, Option.map_none, hb, szo hte w', Sem.run_pure]
  have hin : ∀ j c, ds[j]? = some c → cs[l.toNat * ez + j]? = some c := fun j c hc => take_get hds hc
  refine ⟨_, .d (.lst (fun j => f (l.toNat * ez + j)) (by omega) (by omega) (fun j hj => ?_) (fun j c hc => hv2 _ c (hin j c hc))), fun w' _ => run w'⟩
  obtain ⟨ad, e1, e2, e3⟩ := ha _ (List.getElem?_eq_some_iff.1 (hin j _ (List.getElem?_eq_getElem hj))).1
  subst e1
  have add2 : ∀ o j, (ad.add o).add j = ad.add (o + j) := fun o j => by
    unfold Addr.add; split <;> split <;> split <;> simp_all [Nat.add_assoc]
  split
  · -- no room behind: no cell
    rename_i hcl
    have : ds.length ≤ (hh.toNat - l.toNat) * ez := by rw [← hds]; simp; omega
    have hz : hh.toNat - l.toNat = 0 := by omega
    rw [hz, Nat.zero_mul] at this
    omega
  · exact ⟨_, rfl, by rw [add_block]; exact e2, by rw [add2]; exact e3⟩
/-- A part of a row at hand, from its beginning. -/
theorem Yl.sliceS {id off ec : Nat} {lo hi : Option Operand} {l hh : Int} (ho : o.op = .slice t x lo hi none) (hx : evO s x = some (.sl ec id off n)) (ht : lk E.tab t = some ⟨td, tz, tb, tr⟩) (hd : td = .slice e) (hte : lk E.tab e = some ⟨ed, ez, eb, er⟩) (hez : ez = ec) (hlo : bnd s 0 lo = some l) (hhi : bnd s n hi = some hh)
    (h0 : 0 ≤ l) (h1 : l ≤ hh) (h2 : hh ≤ n) (hl : l = 0 ∨ l < hh) : Yl ρ E k B s h o (.sl ec id (off + l.toNat * ec) (hh.toNat - l.toNat)) := fun U m a w r => by
  subst hez
  have h3 := r.opnd hx
  generalize hv : a.eval x = v at h3
  have hu : ∀ w', (underlying t).run E.P w' = .ok (.slice e) w' := fun w' => by have := und ht w'; rw [hd] at this; exact this
  cases h3 with
  | sl0 hid hm =>
    have hl0 : l = 0 := by omega
    have hh0 : hh = 0 := by omega
    subst hl0; subst hh0
    refine ⟨_, .sl0 (off := off + Int.toNat 0 * ez) hid hm, fun w' _ => ?_⟩
    have hb := run_bounds (P := E.P) (g := true) (len := 0) (cap := 0) r hlo hhi h0 h1 (by omega) (Nat.le_refl _) w'
    simp only [execOp, ho, Instr.sliceAt, hv, Sem.run_bind, hu w', Result.andThen_ok, Instr.slice, Option.map_none, hb, szo hte w', Sem.run_pure]
    rfl
  | @sl _ _ _ _ xx cap z hid hm hk hc hz hs =>
    refine ⟨.slice (some ⟨xx, off + l.toNat * ez, none⟩) (hh.toNat - l.toNat) (cap - l.toNat), .sl hid hm (by omega) (by omega) hz ?_, fun w' _ => ?_⟩
    · have : (cap - l.toNat) * ez + l.toNat * ez = cap * ez := by rw [← Nat.add_mul]; congr 1; omega
      omega
    · have hb := run_bounds (P := E.P) (g := true) (len := n) (cap := cap) r hlo hhi h0 h1 (by omega) hk w'
      simp only [execOp, ho, Instr.sliceAt, hv, Sem.run_bind, hu w', Result.andThen_ok, Instr.slice, Option.map_none, hb, szo hte w', Sem.run_pure, Option.map_some, Addr.add_lit]
      have : (if cap = l.toNat then (some ⟨xx, off, none⟩ : Option Addr) else some ⟨xx, off + l.toNat * ez, none⟩) = some ⟨xx, off + l.toNat * ez, none⟩ := by
        split
        · have : l = 0 := by omega
          subst this; simp
        · rfl
      rw [this]
/-- A slice of an array at hand. -/
theorem Yl.sliceA {id off len : Nat} {cs : List V} {lo hi : Option Operand} {l hh : Int} (ho : o.op = .slice t x lo hi none) (hx : evO s x = some (.ptr id off)) (ht : lk E.tab t = some ⟨td, tz, tb, tr⟩) (hd : td = .array len e) (hte : lk E.tab e = some ⟨ed, ez, eb, er⟩) (hb : lk h.b id = some (some (.cells cs))) (hin : Nat.ble (off + len * ez) cs.length = true) (hlen : Nat.ble len 4611686018427387904 = true) (hlo : bnd s 0 lo = some l) (hhi : bnd s len hi = some hh)
    (h0 : 0 ≤ l) (h1 : l ≤ hh) (h2 : hh ≤ len) (hl : l = 0 ∨ l < hh) : Yl ρ E k B s h o (.sl ez id (off + l.toNat * ez) (hh.toNat - l.toNat)) := fun U m a w r => by
  obtain ⟨b, g1, g2, g3⟩ := r.evPtr hx
  obtain ⟨_, hbr⟩ := r.heap.live id _ hb
  rw [g1] at hbr
  cases hbr with | cells hbr =>
  obtain ⟨arr, et, q1, q2, q3⟩ := hbr
  have hin' := Nat.le_of_ble_eq_true hin
  have hlen' := Nat.le_of_ble_eq_true hlen
  have hu : ∀ w', (underlying t).run E.P w' = .ok (.array len e) w' := fun w' => by have := und ht w'; rw [hd] at this; exact this
  have hmul : (len - l.toNat) * ez + l.toNat * ez = len * ez := by rw [← Nat.add_mul]; congr 1; omega
  refine ⟨.slice (some ⟨b, off + l.toNat * ez, none⟩) (hh.toNat - l.toNat) (len - l.toNat), .sl g3 g1 (by omega) (by simp only [maxLen]; omega) ⟨arr, et, _, q1, rfl⟩ (by omega), fun w' _ => ?_⟩
  have hbb := run_bounds (P := E.P) (g := false) (len := len) (cap := len) r hlo hhi h0 h1 h2 (Nat.le_refl _) w'
  simp only [execOp, ho, Instr.sliceAt, g2, Sem.run_bind, hu w', Result.andThen_ok, Instr.sureAddr, Option.map_none, hbb, szo hte w', Sem.run_pure, Addr.add_lit]
  have : (if len = l.toNat then (⟨b, off, none⟩ : Addr) else ⟨b, off + l.toNat * ez, none⟩) = ⟨b, off + l.toNat * ez, none⟩ := by
    split
    · have : l = 0 := by omega
      subst this; simp
    · rfl
  rw [this]
/-- A slice as an array's address. -/
theorem Yl.arrS {ec id off len : Nat} (ho : o.op = .sliceToArrayPointer t x) (hx : evO s x = some (.sl ec id off n)) (ht : lk E.tab t = some ⟨.array len e, tz, tb, tr⟩) (hl : len ≤ n) (hp : 0 < len) : Yl ρ E k B s h o (.ptr id off) := fun U m a w r => by
  have h3 := r.opnd hx
  generalize hv : a.eval x = v at h3
  cases h3 with
  | sl0 => omega
  | @sl _ _ _ _ xx cap z hid hm hk hc hz hs =>
    refine ⟨.pointer (some ⟨xx, off, none⟩), .ptr hid hm, fun w' _ => ?_⟩
    have hu := und ht w'
    simp only [execOp, ho, Instr.arrayAt, hv, Sem.run_bind, hu, Result.andThen_ok, if_neg (show ¬ n < len by omega), Sem.run_pure]

/-- Lent. -/
def lent (U : Nat → Prop) (m : Nat → Option Nat) (b : Heap) : Nat → Prop := fun x => U x ∨ Own m b x
/-- What is known of a value when the blocks at hand are lent: rows and variables are data. -/
def BLe (h : Hp) (v v' : V) : Prop := ∀ (U : Nat → Prop) (m : Nat → Option Nat) (w : World) (r : Value), HR U m h.n h.b w → VR U m h.n w v r → VR (lent U m h.b) m h.n w v' r
inductive BL (h : Hp) : List V → List V → Prop where
  | nil : BL h [] []
  | cons {v v' : V} {l l' : List V} (g : BLe h v v') (k : BL h l l') : BL h (v :: l) (v' :: l')
theorem cr_D {x : Nat} {cs : List V} {l : List D} {arr : Array Value} {off c : Nat} (hc : ∀ (j : Nat) (c : V) (v : Value), cs[j]? = some c → arr[j]? = some v → VR U m n w c v) (hsz : cs.length ≤ arr.size) (hl : (cs.drop off).take c = l.map .d) {j : Nat} {d : D} (hd : l[j]? = some d) : ∃ r, arr[off + j]? = some r ∧ DR U w d r := by
  have h1 : ((cs.drop off).take c)[j]? = some (.d d) := by rw [hl, List.getElem?_map, hd]; rfl
  have h2 := take_get rfl h1
  have h3 : off + j < arr.size := Nat.lt_of_lt_of_le (List.getElem?_eq_some_iff.1 h2).1 hsz
  have := hc _ _ _ h2 (Array.getElem?_eq_getElem h3)
  cases this with | d g => exact ⟨_, Array.getElem?_eq_getElem h3, g⟩
theorem BLe.le {v v' : V} (l : VLe v v') : BLe h v v' := fun U m w r hH hv =>
  (hv.le l).mono (fun x hx => .inl hx) (fun _ _ => rfl) (fun _ _ h => h) (Nat.le_refl _) (fun _ _ => rfl)
theorem BLe.row {ec id off n : Nat} {cs l : List D} (hb : lk h.b id = some (some (.dat cs))) (hl : (cs.drop off).take (n * ec) = l) (hz : l.length = n * ec) : BLe h (.sl ec id off n) (.d (.lst n l)) := fun U m w r hH hv => by
  have hU : ∀ x, U x → lent U m h.b x := fun x hx => .inl hx
  cases hv with
  | sl0 hid hm =>
    have : l = [] := List.eq_nil_of_length_eq_zero (by omega)
    subst this; exact .d (DR.nil_lst .nsl)
  | @sl _ _ _ _ xx cap z hid hm hk hc hz2 hs =>
    obtain ⟨_, hbr⟩ := hH.live id _ hb
    rw [hm] at hbr
    cases hbr with | dat hbr =>
    obtain ⟨arr, et, g1, g2, g3⟩ := hbr
    refine .d (.lst (fun j => arr.getD (off + j) undef) hk hc (fun j hj => ⟨_, rfl, .inr ⟨id, _, hb, hm⟩, ?_⟩) (fun j c hc2 => ?_))
    · have e2 := take_get hl (List.getElem?_eq_getElem hj)
      have e3 : off + j < arr.size := Nat.lt_of_lt_of_le (List.getElem?_eq_some_iff.1 e2).1 g2
      rw [Addr.add_lit, cell_of_arr g1, Array.getD_eq_getD_getElem?, Array.getElem?_eq_getElem e3]; rfl
    · have e2 := take_get hl hc2
      have e3 : off + j < arr.size := Nat.lt_of_lt_of_le (List.getElem?_eq_some_iff.1 e2).1 g2
      rw [Array.getD_eq_getD_getElem?, Array.getElem?_eq_getElem e3]
      exact (g3 _ _ _ e2 (Array.getElem?_eq_getElem e3)).mono hU (fun _ _ => rfl)
theorem BLe.rowC {ec id off n : Nat} {cs : List V} {l : List D} (hb : lk h.b id = some (some (.cells cs))) (hl : unD ((cs.drop off).take (n * ec)) = some l) (hz : l.length = n * ec) : BLe h (.sl ec id off n) (.d (.lst n l)) := fun U m w r hH hv => by
  have hU : ∀ x, U x → lent U m h.b x := fun x hx => .inl hx
  cases hv with
  | sl0 hid hm =>
    have : l = [] := List.eq_nil_of_length_eq_zero (by omega)
    subst this; exact .d (DR.nil_lst .nsl)
  | @sl _ _ _ _ xx cap z hid hm hk hc hz2 hs =>
    obtain ⟨_, hbr⟩ := hH.live id _ hb
    rw [hm] at hbr
    cases hbr with | cells hbr =>
    obtain ⟨arr, et, g1, g2, g3⟩ := hbr
    have hl' := unD_ok hl
    refine .d (.lst (fun j => arr.getD (off + j) undef) hk hc (fun j hj => ⟨_, rfl, .inr ⟨id, _, hb, hm⟩, ?_⟩) (fun j c hc2 => ?_))
    · obtain ⟨rv, e1, _⟩ := cr_D (x := xx) g3 g2 hl' (List.getElem?_eq_getElem hj)
      rw [Addr.add_lit, cell_of_arr g1, Array.getD_eq_getD_getElem?, e1]; rfl
    · obtain ⟨rv, e1, e2⟩ := cr_D (x := xx) g3 g2 hl' hc2
      rw [Array.getD_eq_getD_getElem?, e1]; exact e2.mono hU (fun _ _ => rfl)
theorem BLe.var {id off : Nat} {cs : List V} {l : List D} (hb : lk h.b id = some (some (.cells cs))) (hl : unD (cs.drop off) = some l) : BLe h (.ptr id off) (.d (.lptr l)) := fun U m w r hH hv => by
  have hU : ∀ x, U x → lent U m h.b x := fun x hx => .inl hx
  cases hv with | @ptr _ _ xx hid hm =>
  obtain ⟨_, hbr⟩ := hH.live id _ hb
  rw [hm] at hbr
  cases hbr with | cells hbr =>
  obtain ⟨arr, et, g1, g2, g3⟩ := hbr
  have hl' := unD_ok hl
  have hl2 : (cs.drop off).take cs.length = l.map .d := by rw [List.take_of_length_le (by simp)]; exact hl'
  refine .d (.lptr (fun j => arr.getD (off + j) undef) (.inr ⟨id, _, hb, hm⟩) (fun j hj => ?_) (fun j c hc2 => ?_))
  · obtain ⟨rv, e1, _⟩ := cr_D (x := xx) g3 g2 hl2 (List.getElem?_eq_getElem hj)
    rw [Addr.add_lit, cell_of_arr g1, Array.getD_eq_getD_getElem?, e1]; rfl
  · obtain ⟨rv, e1, e2⟩ := cr_D (x := xx) g3 g2 hl2 hc2
    rw [Array.getD_eq_getD_getElem?, e1]; exact e2.mono hU (fun _ _ => rfl)
theorem VR.lend {r : Value} {v v' : V} (hH : HR U m h.n h.b w) (hv : VR U m h.n w v r) (l : BLe h v v') : VR (lent U m h.b) m h.n w v' r := l U m w r hH hv
mutual
/-- Without a slice or an address. -/
def V.flat : V → Bool
  | .d (.lst ..) => false
  | .d (.rows ..) => false
  | .d (.lptr ..) => false
  | .d _ => true
  | .agg cs => flatL cs
  | .tup vs => flatL vs
  | .un => true
  | _ => false
def flatL : List V → Bool
  | [] => true
  | v :: r => v.flat && flatL r
end
theorem flatL_get {l : List V} (h : flatL l = true) {j : Nat} {v : V} (hj : l[j]? = some v) : v.flat = true := by
  induction l generalizing j with
  | nil => simp at hj
  | cons x r ih =>
    simp only [flatL, Bool.and_eq_true] at h
    cases j with
    | zero => simp at hj; subst hj; exact h.1
    | succ j => exact ih h.2 (by simpa using hj)
theorem VR.flat {U' : Nat → Prop} {m' : Nat → Option Nat} {n n' : Nat} {w w' : World} {v : V} {r : Value} (h : VR U m n w v r) (hf : v.flat = true) : VR U' m' n' w' v r := by
  induction h with
  | un v => exact .un v
  | d h =>
    cases h <;> first | (simp [V.flat] at hf; done) | exact .d (by constructor <;> assumption)
  | sl => cases hf
  | sl0 => cases hf
  | ptr => cases hf
  | map => cases hf
  | el => cases hf
  | fn => cases hf
  | ifc => cases hf
  | agg hl h ih => simp only [V.flat] at hf; exact .agg hl (fun j x v h1 h2 => ih j x v h1 h2 (flatL_get hf h1))
  | tup hl h ih => simp only [V.flat] at hf; exact .tup hl (fun j x v h1 h2 => ih j x v h1 h2 (flatL_get hf h1))
theorem VRs.lend {as : Array Value} : ∀ {l l' : List V}, HR U m h.n h.b w → VRs U m h.n w l as → BL h l l' → VRs (lent U m h.b) m h.n w l' as := by
  intro l l' hH hV hB
  have hlen : l.length = l'.length := by
    clear hV
    induction hB with
    | nil => rfl
    | cons _ _ ih => simp [ih]
  refine ⟨by rw [← hlen]; exact hV.len, fun j x' v hx hv => ?_⟩
  have key : ∀ (l l' : List V), BL h l l' → ∀ (j : Nat) (x' : V), l'[j]? = some x' → ∃ x, l[j]? = some x ∧ BLe h x x' := by
    intro l l' hA
    induction hA with
    | nil => intro j x' hx; simp at hx
    | @cons v v' l l' h k ih =>
      intro j x' hx
      cases j with
      | zero => simp at hx; subst hx; exact ⟨v, rfl, h⟩
      | succ j => exact ih j x' (by simpa using hx)
  obtain ⟨x, h1, h2⟩ := key l l' hB j x' hx
  exact VR.lend hH (hV.at_ j x v h1 hv) h2
/-- A call of a pure function that reads what is at hand. -/
theorem Fn.callsB {f : FuncId} {args vs : List V} {rv : V} (c : Fn E f args rv) (hfl : rv.flat = true) {as : Array Value} (hH : HR U m h.n h.b w) (hV : VRs U m h.n w vs as) (hB : BL h vs args) :
    Calls E.P f as w fun e w' => ∃ R0, e = .returned R0 ∧ VR U m h.n w' rv R0 ∧ Stp h.n U m h.n h.b w U m h.n h.b w' ∧ HR U m h.n h.b w' ∧ Same0 w w' := by
  obtain ⟨hp, hpa, c⟩ := c
  have hH0 : HR (lent U m h.b) (fun _ => none) 0 [] w := ⟨fun id blk h => by simp [lk] at h, fun id blk x h => by simp [lk] at h, fun id id' blk blk' x h => by simp [lk] at h, fun x hx => hx.elim (hH.ulow x) (fun ⟨id, blk, h1, h2⟩ => (hH.ok id blk x h1 h2).2)⟩
  have hV' := hV.lend hH hB
  refine (c (lent U m h.b) (fun _ => none) w as hH0 ⟨hV'.len, fun j x v h1 h2 => (hV'.at_ j x v h1 h2).elsewhere (pureL_get hpa h1)⟩).mono fun e w' ⟨r, R0, U', m', h', e1, q, hvr, hH', st⟩ => ?_
  subst q
  have hno : ∀ x, ¬ Own (fun _ => none) [] x := by rintro x ⟨id, bk, h1, _⟩; simp [lk] at h1
  have hs : Same0 w w' := fun x hx => st.keep x hx (hno x)
  refine ⟨R0, e1, hvr.flat hfl, ?_, ?_, hs⟩
  · exact { hn := Nat.le_refl _, hm := fun _ _ => rfl, hU := fun _ h => h, size := st.size, os := st.os, tape := st.tape, output := st.output, keep := fun x hx _ => hs x hx, own := fun _ _ h => h, lim := fun x hx h => .inl h, hz := st.hz }
  · refine ⟨fun id blk h1 => ?_, fun id blk x h1 h2 => ?_, hH.inj, fun x hx => ?_⟩
    · obtain ⟨g1, g2⟩ := hH.live id blk h1
      exact ⟨g1, g2.mono (fun _ h => h) (fun x hx => hs x (hH.ulow x hx)) st.hz (Nat.le_refl _) (fun _ _ => rfl) (fun x hx => hs x (hH.ok id blk x h1 hx).2)⟩
    · obtain ⟨g1, g2⟩ := hH.ok id blk x h1 h2
      exact ⟨g1, Nat.lt_of_lt_of_le g2 st.size⟩
    · exact Nat.lt_of_lt_of_le (hH.ulow x hx) st.size
theorem callB_run {f : FuncId} {xs : Array Operand} {ats : Array TypeId} {vs : List V} (r : SR k B U m s h a w) (ho : o.op = .call { callee := .value (.func f), args := xs, argTypes := ats }) (he : Enters E f) (hv : evL s xs.toList = some vs) :
    ∃ as, (execOp a.eval o).run E.P w = .ok (.enter f as) w ∧ VRs U m h.n w vs as := call_run r ho he hv (AL.refl vs)
theorem TO.fnB {f : FuncId} {xs : Array Operand} {ats : Array TypeId} {args vs : List V} {rv : V} (ho : o.op = .call { callee := .value (.func f), args := xs, argTypes := ats })
    (c : Fn E f args rv) (he : Enters E f) (hv : evL s xs.toList = some vs) (ha : BL h vs args) (hfl : rv.flat = true) (hg : o.guard = none) (hk : dstOk o.dst k = true) (t : TO E k B ops rest (putR o.dst rv s) h Q) : TO E k B ops (o :: rest) s h Q := fun U m a w r => by
  obtain ⟨as, h1, h2⟩ := callB_run r ho he hv
  refine wpList_plain hg fun K hK => ?_
  unfold Oper.wp
  rw [h1, Oper.upon_enter]
  refine (c.callsB hfl r.heap h2 ha).mono fun e w' ⟨R0, e1, hvr, st, hH, _⟩ => ?_
  subst e1
  have r1 := r.stp st hH
  exact hK _ _ (RP.step' (st.low r.base) (t _ _ _ _ (r1.putR hk hvr)))
theorem TA.fnB {f : FuncId} {xs : Array Operand} {ats : Array TypeId} {args vs : List V} {rv : V} {g : Nat → Bool} {listed : Array Bool} (i : Nat) (hi : ops[i]? = some o) (ho : o.op = .call { callee := .value (.func f), args := xs, argTypes := ats })
    (c : Fn E f args rv) (he : Enters E f) (hv : evL s xs.toList = some vs) (ha : BL h vs args) (hfl : rv.flat = true) (hw : Wants s ops o true) (hk : dstOk o.dst k = true) (hr : Region.ready .any ops listed = [i])
    (t : TA E k B ops g n (listed.setIfInBounds i true) (putR o.dst rv s) h Q) : TA E k B ops g (n + 1) listed s h Q := fun U m a w r => by
  obtain ⟨as, h1, h2⟩ := callB_run r ho he hv
  refine ⟨(fun e => by rw [hr] at e; cases e), fun j hj => ?_⟩
  rw [hr] at hj
  simp only [List.mem_singleton] at hj
  subst hj
  unfold wpOp
  simp only [hi, r.wants hw, if_true]
  refine .inl ?_
  unfold Oper.wp
  rw [h1, Oper.upon_enter]
  refine (c.callsB hfl r.heap h2 ha).mono fun e w' ⟨R0, e1, hvr, st, hH, hs⟩ => ?_
  subst e1
  have r1 := r.stp st hH
  exact ⟨fun _ => hs, wpAnyK_mono (fun e a2 w2 q => RP_trans (st.low r.base) q) _ _ _ _ (t U m _ w' (r1.putR hk hvr))⟩
/-- What lies between two pieces of code is told. -/
theorem T.seqC {x y : Code} (s1 : Slots) (h1 : Hp) (t : T E k B x s h (fun e s' h' => e = .normal ∧ Le s' s1 ∧ h' = h1)) (u : T E k B y s1 h1 Q) : T E k B (.seq x y) s h Q :=
  T.seq (t.mono fun e s' h' ⟨e1, e2, e3⟩ => by subst e1; subst e3; exact u.le e2)
end
end Go.Proofs.Ytmgckodihnmjoaa
