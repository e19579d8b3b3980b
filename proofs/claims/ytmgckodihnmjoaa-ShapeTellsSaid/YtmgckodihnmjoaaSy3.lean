/-
  The logic's rules for operations that yield a value and change nothing: numbers, tests, addresses, reads. Conditions: none.
-/
import Derived.Test.YtmgckodihnmjoaaSy2
import Derived.IntWalk
import Derived.Laws.Closers25b
set_option linter.unusedVariables false
set_option linter.unusedSimpArgs false
set_option maxRecDepth 20000
namespace Go.Proofs.Ytmgckodihnmjoaa
open Go.RowKit

def Same0 (w w' : World) : Prop := ∀ x, x < w.heap.size → w'.heap[x]? = w.heap[x]?
theorem Same0.refl (w : World) : Same0 w w := fun _ _ => rfl
theorem Same0.cell {w w' : World} (h : Same0 w w') {ad : Addr} {v : Value} (hc : w.cell? ad = some v) : w'.cell? ad = some v :=
  cell_of_block (h _ (World.block_lt_of_cell? w ad hc)) hc

theorem wrapR (k : IntKind) (n : Int) : inR k (k.wrap n) := wrap_within k n
def loK : IntKind → Int
  | .i8 => -128 | .i16 => -32768 | .i32 => -2147483648 | .i64 => -9223372036854775808
  | .u8 => 0 | .u16 => 0 | .u32 => 0 | .u64 => 0
def hiK : IntKind → Int
  | .i8 => 127 | .i16 => 32767 | .i32 => 2147483647 | .i64 => 9223372036854775807
  | .u8 => 255 | .u16 => 65535 | .u32 => 4294967295 | .u64 => 18446744073709551615
theorem inR_iff (k : IntKind) (i : Int) : inR k i ↔ loK k ≤ i ∧ i ≤ hiK k := by
  cases k <;> simp [inR, loK, hiK, IntKind.min, IntKind.max, IntKind.bits, IntKind.signed]
/-- Not above, below: reckoned by the numbers' forms. -/
def leZ : Int → Int → Bool
  | .ofNat m, .ofNat n => Nat.ble m n
  | .negSucc _, .ofNat _ => true
  | .ofNat _, .negSucc _ => false
  | .negSucc m, .negSucc n => Nat.ble n m
theorem leZ_eq (a b : Int) : leZ a b = decide (a ≤ b) := by
  have hb : ∀ m n : Nat, Nat.ble m n = decide (m ≤ n) := fun m n => by
    rw [Bool.eq_iff_iff, Nat.ble_eq]; simp
  rcases a with m | m <;> rcases b with n | n <;> simp only [leZ, hb, Int.ofNat_eq_natCast]
  · congr 1; exact propext ⟨fun h => by omega, fun h => by omega⟩
  · symm; rw [decide_eq_false_iff_not]; omega
  · symm; rw [decide_eq_true_eq]; omega
  · congr 1; exact propext ⟨fun h => by omega, fun h => by omega⟩
def ltZ (a b : Int) : Bool := leZ (a + 1) b
theorem ltZ_eq (a b : Int) : ltZ a b = decide (a < b) := by unfold ltZ; rw [leZ_eq]; rfl
def inRb (k : IntKind) (i : Int) : Bool := leZ (loK k) i && leZ i (hiK k)
theorem inRb_iff {k : IntKind} {i : Int} : inRb k i = true ↔ inR k i := by simp [inRb, inR_iff, leZ_eq]
theorem wrap_eq {k : IntKind} {i : Int} (h : inR k i) : k.wrap i = i := by
  rw [inR_iff] at h
  cases k <;> simp only [loK, hiK] at h <;> simp [IntKind.wrap, IntKind.bits, IntKind.signed] <;> (try split) <;> omega
def absC : Value → Option D
  | .bool b => some (.bool b)
  | .int k n => match inRb k n with
    | true => some (.int k n)
    | false => none
  | .string s => match Nat.ble s.size 9223372036854775807 with
    | true => some (.str s)
    | false => none
  | .slice none 0 0 => some .nsl
  | .pointer none => some .nilp
  | .map none => some .nmap
  | .nilFunc => some .nfn
  | .nilIface => some .nifc
  | _ => none
def absL : List Value → Option (List V)
  | [] => some []
  | v :: r => match absC v, absL r with
    | some x, some l => some (.d x :: l)
    | _, _ => none
def absV : Value → Option V
  | .agg cs => (absL cs.toList).map .agg
  | .tuple cs => (absL cs.toList).map .tup
  | v => (absC v).map .d
/-- What an operand is. -/
def evO (s : Slots) : Operand → Option V
  | .tmp t => lk s t
  | .const c => absV c
  | .func f => some (.d (.fn f))
  | .global _ => none
theorem absC_ok {U : Nat → Prop} {w : World} {c : Value} {x : D} (h : absC c = some x) : DR U w x c := by
  unfold absC at h
  split at h <;> first
    | (split at h <;> first | (rename_i h1; injection h with h; subst h; first | exact .int _ _ (inRb_iff.1 h1) | exact .str _ (Nat.le_of_ble_eq_true h1)) | cases h)
    | (injection h with h; subst h; constructor)
    | cases h
theorem absL_ok {U : Nat → Prop} {m : Nat → Option Nat} {n : Nat} {w : World} : ∀ {l : List Value} {vs : List V}, absL l = some vs → vs.length = l.length ∧ ∀ (j : Nat) (c : V) (v : Value), vs[j]? = some c → l[j]? = some v → VR U m n w c v
  | [], vs, h => by simp only [absL, Option.some.injEq] at h; subst h; exact ⟨rfl, fun j c v h1 => by simp at h1⟩
  | v :: r, vs, h => by
    simp only [absL] at h
    split at h
    · rename_i x l h1 h2
      injection h with h; subst h
      obtain ⟨h3, h4⟩ := absL_ok (U := U) (m := m) (n := n) (w := w) h2
      refine ⟨by simp [h3], fun j c u h5 h6 => ?_⟩
      cases j with
      | zero => simp at h5 h6; subst h5; subst h6; exact .d (absC_ok h1)
      | succ j => exact h4 j c u (by simpa using h5) (by simpa using h6)
    · cases h
theorem absV_ok {U : Nat → Prop} {m : Nat → Option Nat} {n : Nat} {w : World} {c : Value} {x : V} (h : absV c = some x) : VR U m n w x c := by
  unfold absV at h
  split at h
  · obtain ⟨l, h1, rfl⟩ := Option.map_eq_some_iff.1 h
    obtain ⟨h2, h3⟩ := absL_ok (U := U) (m := m) (n := n) (w := w) h1
    exact .agg (by simpa using h2) (fun j c v h4 h5 => h3 j c v h4 (by simpa using h5))
  · obtain ⟨l, h1, rfl⟩ := Option.map_eq_some_iff.1 h
    obtain ⟨h2, h3⟩ := absL_ok (U := U) (m := m) (n := n) (w := w) h1
    exact .tup (by simpa using h2) (fun j c v h4 h5 => h3 j c v h4 (by simpa using h5))
  · obtain ⟨d, h1, rfl⟩ := Option.map_eq_some_iff.1 h
    exact .d (absC_ok h1)

section
variable {E : Env} {k B : Nat} {s s' : Slots} {h h' : Hp} {Q Q' : Post} {U : Nat → Prop} {m : Nat → Option Nat} {a : Act} {w : World}

theorem SR.opnd (r : SR k B U m s h a w) {x : Operand} {v : V} (hv : evO s x = some v) : VR U m h.n w v (a.eval x) := by
  cases x with
  | tmp t => exact r.tmp hv
  | const c => exact absV_ok hv
  | func f => simp only [evO, Option.some.injEq] at hv; subst hv; exact .d (.fn f)
  | global g => cases hv
theorem SR.evInt (r : SR k B U m s h a w) {x : Operand} {q : IntKind} {i : Int} (hv : evO s x = some (.d (.int q i))) : a.eval x = .int q i := by
  have h1 := r.opnd hv
  generalize a.eval x = y at h1
  cases h1 with | d h1 => cases h1; rfl
theorem SR.evIntR (r : SR k B U m s h a w) {x : Operand} {q : IntKind} {i : Int} (hv : evO s x = some (.d (.int q i))) : inR q i := by
  have h1 := r.opnd hv
  generalize a.eval x = y at h1
  cases h1 with | d h1 => cases h1; assumption
theorem tmodR {q : IntKind} {i j : Int} (h : inR q i) (_ : j ≠ 0) : inR q (i.tmod j) := by
  rw [inR_iff] at h ⊢
  have h3 := Nat.mod_le i.natAbs j.natAbs
  have h1 : 0 ≤ i → 0 ≤ i.tmod j ∧ i.tmod j ≤ i := fun hi => by
    have h4 := Int.tmod_nonneg j hi
    have h2 : (i.tmod j).natAbs = i.natAbs % j.natAbs := Int.natAbs_tmod ..
    omega
  have h2 : i ≤ 0 → i ≤ i.tmod j ∧ i.tmod j ≤ 0 := fun hi => by
    have h5 : (-i).tmod j = -(i.tmod j) := Int.neg_tmod ..
    have h4 : 0 ≤ (-i).tmod j := Int.tmod_nonneg j (by omega)
    have h2 : (i.tmod j).natAbs = i.natAbs % j.natAbs := Int.natAbs_tmod ..
    omega
  rcases Int.le_total 0 i with hi | hi
  · have := h1 hi; cases q <;> simp only [loK, hiK] at h ⊢ <;> omega
  · have := h2 hi; cases q <;> simp only [loK, hiK] at h ⊢ <;> omega
theorem shrR {q : IntKind} {i : Int} (h : inR q i) (n : Nat) : inR q (i.fdiv (2 ^ n)) := by
  rw [inR_iff] at h ⊢
  have hp : (0 : Int) < 2 ^ n := by exact_mod_cast Nat.two_pow_pos n
  rw [Int.fdiv_eq_ediv_of_nonneg _ (by omega)]
  have h1 : 0 ≤ i → 0 ≤ i / 2 ^ n ∧ i / 2 ^ n ≤ i := fun hi => ⟨Int.ediv_nonneg hi (by omega), Int.ediv_le_self _ hi⟩
  have h2 : i < 0 → i ≤ i / 2 ^ n ∧ i / 2 ^ n < 0 := fun hi => by
    refine ⟨?_, Int.ediv_neg_of_neg_of_pos hi hp⟩
    rw [Int.le_ediv_iff_mul_le hp]
    have : i * 2 ^ n ≤ i * 1 := Int.mul_le_mul_of_nonpos_left (by omega) (by omega)
    omega
  rcases Int.lt_or_le i 0 with hi | hi
  · have := h2 hi; cases q <;> simp only [loK, hiK] at h ⊢ <;> omega
  · have := h1 hi; cases q <;> simp only [loK, hiK] at h ⊢ <;> omega
theorem SR.evBool (r : SR k B U m s h a w) {x : Operand} {b : Bool} (hv : evO s x = some (.d (.bool b))) : a.eval x = .bool b := by
  have h1 := r.opnd hv
  generalize a.eval x = y at h1
  cases h1 with | d h1 => cases h1; rfl
theorem SR.evStr (r : SR k B U m s h a w) {x : Operand} {b : ByteArray} (hv : evO s x = some (.d (.str b))) : a.eval x = .string b := by
  have h1 := r.opnd hv
  generalize a.eval x = y at h1
  cases h1 with | d h1 => cases h1; rfl

/-- An operation yields a value, whatever else has been made. -/
def Yl (ρ : Bool) (E : Env) (k B : Nat) (s : Slots) (h : Hp) (o : Oper) (v : V) : Prop :=
  ∀ U m a w, SR k B U m s h a w → ∃ r, VR U m h.n w v r ∧ ∀ w', (ρ = true → Same0 w w') → (execOp a.eval o).run E.P w' = .ok (.value r) w'

variable {ops : Array Oper} {rest : List Oper} {o : Oper} {v : V} {d : Nat} {ρ : Bool}
theorem TO.yl (hg : o.guard = none) (hd : o.dst = some d) (hk : Nat.blt d k = true) (y : Yl ρ E k B s h o v) (t : TO E k B ops rest ((d, v) :: s) h Q) : TO E k B ops (o :: rest) s h Q := fun U m a w r => by
  obtain ⟨x, h1, h2⟩ := y U m a w r
  refine wpList_plain hg fun K hK => ?_
  unfold Oper.wp
  rw [h2 w (fun _ => .refl w), Oper.upon_value, hd]
  exact hK _ _ (t U m _ w (r.put hk h1))
def yieldSlot (ops : Array Oper) (j : Nat) : Option Nat := (ops[j]?).bind (·.dst)
theorem SR.yielded (r : SR k B U m s h a w) {j dj : Nat} {b : Bool} (hj : yieldSlot ops j = some dj) (hb : lk s dj = some (vb b)) : Go.yielded ops a.tmps j = some b := by
  obtain ⟨x, h1, h2⟩ := r.slots dj _ hb
  cases h2 with | d h2 =>
  cases h2
  unfold Go.yielded
  unfold yieldSlot at hj
  rw [hj]
  simp [h1]
/-- A guard that is open. -/
theorem TO.open {j dj : Nat} {want b : Bool} (hg : o.guard = some (j, want)) (hj : yieldSlot ops j = some dj) (hb : lk s dj = some (vb b)) (hw : b = want) (t : TO E k B ops ({ o with guard := none } :: rest) s h Q) : TO E k B ops (o :: rest) s h Q := fun U m a w r => by
  have h1 := t U m a w r
  have h2 := r.yielded hj hb
  subst hw
  unfold wpList at h1 ⊢
  have e1 : Region.wanted o (Go.yielded ops a.tmps) = true := by simp [Region.wanted, hg, h2]
  rw [if_pos (by simp [Region.wanted])] at h1
  rw [if_pos e1]
  exact h1
/-- A guard that is shut. -/
theorem TO.shut {j dj : Nat} {want b : Bool} (hg : o.guard = some (j, want)) (hd : o.dst = some d) (hk : Nat.blt d k = true) (hj : yieldSlot ops j = some dj) (hb : lk s dj = some (vb b)) (hw : b = !want) (t : TO E k B ops rest ((d, .un) :: s) h Q) : TO E k B ops (o :: rest) s h Q := fun U m a w r => by
  have h2 := r.yielded hj hb
  subst hw
  unfold wpList
  have e1 : Region.wanted o (Go.yielded ops a.tmps) = false := by simp [Region.wanted, hg, h2]
  rw [if_neg (by simp [e1]), hd]
  exact t U m _ w (r.put hk (.un _))

theorem Yl.move {x : Operand} (ho : o.op = .move x) (hx : evO s x = some v) : Yl ρ E k B s h o v := fun U m a w r => ⟨_, r.opnd hx, fun w' _ => by simp [execOp, ho]⟩
theorem Yl.assign {x : Operand} (ho : o.op = .assign x) (hx : evO s x = some v) : Yl ρ E k B s h o v := fun U m a w r => ⟨_, r.opnd hx, fun w' _ => by simp [execOp, ho]⟩
theorem Yl.pickT {c x y : Operand} {b : Bool} (ho : o.op = .pick c x y) (hc : evO s c = some (vb b)) (hb : b = true) (hx : evO s x = some v) : Yl ρ E k B s h o v := fun U m a w r =>
  ⟨_, r.opnd hx, fun w' _ => by subst hb; simp [execOp, ho, r.evBool hc, asBool]⟩
theorem Yl.pickF {c x y : Operand} {b : Bool} (ho : o.op = .pick c x y) (hc : evO s c = some (vb b)) (hb : b = false) (hy : evO s y = some v) : Yl ρ E k B s h o v := fun U m a w r =>
  ⟨_, r.opnd hy, fun w' _ => by subst hb; simp [execOp, ho, r.evBool hc, asBool]⟩
theorem Yl.pickB {c x y : Operand} {b b1 b2 : Bool} (ho : o.op = .pick c x y) (hc : evO s c = some (vb b)) (hx : evO s x = some (vb b1)) (hy : evO s y = some (vb b2)) : Yl ρ E k B s h o (vb (bif b then b1 else b2)) := fun U m a w r =>
  ⟨_, .d (.bool _), fun w' _ => by cases b <;> simp [execOp, ho, r.evBool hc, r.evBool hx, r.evBool hy, asBool]⟩
section
variable {t u : TypeId} {x y : Operand} {q : IntKind} {i j c : Int}
theorem Yl.add (ho : o.op = .binOp .add t x y u) (hx : evO s x = some (.d (.int q i))) (hy : evO s y = some (.d (.int q j))) (hc : q.wrap (i + j) = c) : Yl ρ E k B s h o (.d (.int q c)) := fun U m a w r =>
  ⟨_, .d (.int q c (hc ▸ wrapR q _)), fun w' _ => by simp [execOp, ho, r.evInt hx, r.evInt hy, eqGuard, binOp, Op.intArith, hc]⟩
theorem Yl.sub (ho : o.op = .binOp .sub t x y u) (hx : evO s x = some (.d (.int q i))) (hy : evO s y = some (.d (.int q j))) (hc : q.wrap (i - j) = c) : Yl ρ E k B s h o (.d (.int q c)) := fun U m a w r =>
  ⟨_, .d (.int q c (hc ▸ wrapR q _)), fun w' _ => by simp [execOp, ho, r.evInt hx, r.evInt hy, eqGuard, binOp, Op.intArith, hc]⟩
theorem Yl.mul (ho : o.op = .binOp .mul t x y u) (hx : evO s x = some (.d (.int q i))) (hy : evO s y = some (.d (.int q j))) (hc : q.wrap (i * j) = c) : Yl ρ E k B s h o (.d (.int q c)) := fun U m a w r =>
  ⟨_, .d (.int q c (hc ▸ wrapR q _)), fun w' _ => by simp [execOp, ho, r.evInt hx, r.evInt hy, eqGuard, binOp, Op.intArith, hc]⟩
theorem Yl.quo (ho : o.op = .binOp .quo t x y u) (hx : evO s x = some (.d (.int q i))) (hy : evO s y = some (.d (.int q j))) (h0 : j ≠ 0) (hc : q.wrap (i.tdiv j) = c) : Yl ρ E k B s h o (.d (.int q c)) := fun U m a w r =>
  ⟨_, .d (.int q c (hc ▸ wrapR q _)), fun w' _ => by simp [execOp, ho, r.evInt hx, r.evInt hy, eqGuard, binOp, Op.intDiv, h0, hc]⟩
theorem Yl.rem (ho : o.op = .binOp .rem t x y u) (hx : evO s x = some (.d (.int q i))) (hy : evO s y = some (.d (.int q j))) (h0 : j ≠ 0) (hc : i.tmod j = c) : Yl ρ E k B s h o (.d (.int q c)) := fun U m a w r =>
  ⟨_, .d (.int q c (hc ▸ tmodR (r.evIntR hx) h0)), fun w' _ => by simp [execOp, ho, r.evInt hx, r.evInt hy, eqGuard, binOp, Op.intDiv, h0, hc]⟩
theorem Yl.and (ho : o.op = .binOp .and t x y u) (hx : evO s x = some (.d (.int q i))) (hy : evO s y = some (.d (.int q j))) (hc : q.wrap ((BitVec.ofInt q.bits i &&& BitVec.ofInt q.bits j).toNat) = c) : Yl ρ E k B s h o (.d (.int q c)) := fun U m a w r =>
  ⟨_, .d (.int q c (hc ▸ wrapR q _)), fun w' _ => by simp [execOp, ho, r.evInt hx, r.evInt hy, eqGuard, binOp, Op.intBits, ← hc]⟩
theorem Yl.or (ho : o.op = .binOp .or t x y u) (hx : evO s x = some (.d (.int q i))) (hy : evO s y = some (.d (.int q j))) (hc : q.wrap ((BitVec.ofInt q.bits i ||| BitVec.ofInt q.bits j).toNat) = c) : Yl ρ E k B s h o (.d (.int q c)) := fun U m a w r =>
  ⟨_, .d (.int q c (hc ▸ wrapR q _)), fun w' _ => by simp [execOp, ho, r.evInt hx, r.evInt hy, eqGuard, binOp, Op.intBits, ← hc]⟩
theorem Yl.xor (ho : o.op = .binOp .xor t x y u) (hx : evO s x = some (.d (.int q i))) (hy : evO s y = some (.d (.int q j))) (hc : q.wrap ((BitVec.ofInt q.bits i ^^^ BitVec.ofInt q.bits j).toNat) = c) : Yl ρ E k B s h o (.d (.int q c)) := fun U m a w r =>
  ⟨_, .d (.int q c (hc ▸ wrapR q _)), fun w' _ => by simp [execOp, ho, r.evInt hx, r.evInt hy, eqGuard, binOp, Op.intBits, ← hc]⟩
theorem Yl.andNot (ho : o.op = .binOp .andNot t x y u) (hx : evO s x = some (.d (.int q i))) (hy : evO s y = some (.d (.int q j))) (hc : q.wrap ((BitVec.ofInt q.bits i &&& ~~~ (BitVec.ofInt q.bits j)).toNat) = c) : Yl ρ E k B s h o (.d (.int q c)) := fun U m a w r =>
  ⟨_, .d (.int q c (hc ▸ wrapR q _)), fun w' _ => by simp [execOp, ho, r.evInt hx, r.evInt hy, eqGuard, binOp, Op.intBits, ← hc]⟩
theorem Yl.shl {q' : IntKind} (ho : o.op = .binOp .shl t x y u) (hx : evO s x = some (.d (.int q i))) (hy : evO s y = some (.d (.int q' j))) (h0 : 0 ≤ j) (hc : q.wrap (i * 2 ^ (min j.toNat q.bits)) = c) : Yl ρ E k B s h o (.d (.int q c)) := fun U m a w r =>
  ⟨_, .d (.int q c (hc ▸ wrapR q _)), fun w' _ => by simp [execOp, ho, r.evInt hx, r.evInt hy, eqGuard, binOp, Op.shift, show ¬ j < 0 by omega, hc]⟩
theorem Yl.shr {q' : IntKind} (ho : o.op = .binOp .shr t x y u) (hx : evO s x = some (.d (.int q i))) (hy : evO s y = some (.d (.int q' j))) (h0 : 0 ≤ j) (hc : i.fdiv (2 ^ (min j.toNat q.bits)) = c) : Yl ρ E k B s h o (.d (.int q c)) := fun U m a w r =>
  ⟨_, .d (.int q c (hc ▸ shrR (r.evIntR hx) _)), fun w' _ => by simp [execOp, ho, r.evInt hx, r.evInt hy, eqGuard, binOp, Op.shift, show ¬ j < 0 by omega, hc]⟩
theorem Yl.lss (ho : o.op = .binOp .lss t x y u) (hx : evO s x = some (.d (.int q i))) (hy : evO s y = some (.d (.int q j))) : Yl ρ E k B s h o (vb (decide (i < j))) := fun U m a w r =>
  ⟨_, .d (.bool _), fun w' _ => by simp [execOp, ho, r.evInt hx, r.evInt hy, eqGuard, binOp, Op.intCmp]⟩
theorem Yl.leq (ho : o.op = .binOp .leq t x y u) (hx : evO s x = some (.d (.int q i))) (hy : evO s y = some (.d (.int q j))) : Yl ρ E k B s h o (vb (decide (i ≤ j))) := fun U m a w r =>
  ⟨_, .d (.bool _), fun w' _ => by simp [execOp, ho, r.evInt hx, r.evInt hy, eqGuard, binOp, Op.intCmp]⟩
theorem Yl.gtr (ho : o.op = .binOp .gtr t x y u) (hx : evO s x = some (.d (.int q i))) (hy : evO s y = some (.d (.int q j))) : Yl ρ E k B s h o (vb (decide (j < i))) := fun U m a w r =>
  ⟨_, .d (.bool _), fun w' _ => by simp [execOp, ho, r.evInt hx, r.evInt hy, eqGuard, binOp, Op.intCmp]⟩
theorem Yl.geq (ho : o.op = .binOp .geq t x y u) (hx : evO s x = some (.d (.int q i))) (hy : evO s y = some (.d (.int q j))) : Yl ρ E k B s h o (vb (decide (j ≤ i))) := fun U m a w r =>
  ⟨_, .d (.bool _), fun w' _ => by simp [execOp, ho, r.evInt hx, r.evInt hy, eqGuard, binOp, Op.intCmp]⟩
theorem Yl.eql (ho : o.op = .binOp .eql t x y u) (hx : evO s x = some (.d (.int q i))) (hy : evO s y = some (.d (.int q j))) : Yl ρ E k B s h o (vb (decide (i = j))) := fun U m a w r =>
  ⟨_, .d (.bool _), fun w' _ => by simp [execOp, ho, r.evInt hx, r.evInt hy, eqGuard, binOp, Op.intCmp]; rfl⟩
theorem Yl.neq (ho : o.op = .binOp .neq t x y u) (hx : evO s x = some (.d (.int q i))) (hy : evO s y = some (.d (.int q j))) : Yl ρ E k B s h o (vb (!decide (i = j))) := fun U m a w r =>
  ⟨_, .d (.bool _), fun w' _ => by simp [execOp, ho, r.evInt hx, r.evInt hy, eqGuard, binOp, Op.intCmp, bne]; rfl⟩
theorem Yl.neg (ho : o.op = .unOp .neg t x) (hx : evO s x = some (.d (.int q i))) (hc : q.wrap (0 - i) = c) : Yl ρ E k B s h o (.d (.int q c)) := fun U m a w r =>
  ⟨_, .d (.int q c (hc ▸ wrapR q _)), fun w' _ => by simp only [Int.zero_sub] at hc; simp [execOp, ho, r.evInt hx, Op.unary, Op.intArith, hc]⟩
theorem Yl.not {b : Bool} (ho : o.op = .unOp .not t x) (hx : evO s x = some (vb b)) : Yl ρ E k B s h o (vb (!b)) := fun U m a w r =>
  ⟨_, .d (.bool _), fun w' _ => by simp [execOp, ho, r.evBool hx, Op.unary]⟩
end
end
end Go.Proofs.Ytmgckodihnmjoaa
