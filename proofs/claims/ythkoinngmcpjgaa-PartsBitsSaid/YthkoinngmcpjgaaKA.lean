/-
  A logic over symbolic states: values, blocks, frames, its rules. Conditions: none.
-/
import Derived.WalkKit
import Derived.MapKept
import Derived.ProofKit
import Derived.Below
import Derived.Calls
import Derived.LoopN
import Derived.IntWalk
import Derived.Laws.Closers25b
import Derived.Laws.Entries
import Derived.Laws.Sem
import Derived.Laws.CopyRow
import Derived.Laws.Append
import Derived.Laws.AppendOwn
import Derived.BigCall
/-
  A logic over symbolic states: values, blocks and frames as plain data, and what they tell of the real ones. Conditions: none.
-/
set_option linter.unusedVariables false
set_option linter.unusedSimpArgs false
set_option maxRecDepth 20000
namespace Go.Proofs.Ythkoinngmcpjgaa
open Go.RowKit

/-- Data: what hangs on no block that may be written. `lst`: a slice whose cells nobody writes any more; `rows`: the same, told element by element; `lptr`: a pointer to such cells. -/
inductive D where
  | bool (b : Bool)
  | int (k : IntKind) (n : Int)
  | str (s : ByteArray)
  | lst (n : Nat) (cs : List D)
  | rows (n e : Nat) (f : Nat → List D)
  | nsl
  | lptr (cs : List D)
  | nilp
  | nmap
  | fn (f : FuncId)
  | nfn
  | nifc
  deriving Inhabited

/-- A symbolic value. `sl`: a slice of a block that is at hand (e: the cells of an element); `ptr`: into such a block; `el`: to cell r of element i of such a row; `nn`: data, a slice of which is known whether it is nil. -/
inductive V where
  | un
  | d (x : D)
  | nn (b : Bool) (x : D)
  | sl (e id off len : Nat)
  | ptr (id off : Nat)
  | el (e id i r : Nat)
  | map (id : Nat)
  | fn (f : FuncId) (a c : List V)
  | ifc (t : TypeId) (v : V)
  | agg (cs : List V)
  | tup (vs : List V)
  deriving Inhabited

abbrev vi (n : Int) : V := .d (.int .i64 n)
abbrev vb (b : Bool) : V := .d (.bool b)

theorem cell_of_block {w w' : World} {ad : Addr} {v : Value} (h : w'.heap[ad.block]? = w.heap[ad.block]?) (hc : w.cell? ad = some v) : w'.cell? ad = some v := by
  unfold World.cell? at *; rw [h]; exact hc
theorem add_block (ad : Addr) (j : Nat) : (ad.add j).block = ad.block := by unfold Addr.add; split <;> rfl

/-- A number that its kind holds. -/
def inR (k : IntKind) (i : Int) : Prop := k.min ≤ i ∧ i ≤ k.max
/-- Elements, one behind the other. -/
def flatN {α : Type} (n : Nat) (f : Nat → List α) : List α := (List.range n).flatMap f
/-- What data tell of a real value. U: the blocks that nobody writes. -/
inductive DR (U : Nat → Prop) (w : World) : D → Value → Prop where
  | bool (b : Bool) : DR U w (.bool b) (.bool b)
  | int (k : IntKind) (i : Int) (h : inR k i) : DR U w (.int k i) (.int k i)
  | str (s : ByteArray) (h : s.size ≤ maxLen) : DR U w (.str s) (.string s)
  | lst {k : Nat} {cs : List D} {A : Option Addr} {cap : Nat} (f : Nat → Value) (hk : k ≤ cap) (hc : cap ≤ maxLen)
      (ha : ∀ j, j < cs.length → ∃ ad, A = some ad ∧ U ad.block ∧ w.cell? (ad.add j) = some (f j))
      (hv : ∀ (j : Nat) (c : D), cs[j]? = some c → DR U w c (f j)) : DR U w (.lst k cs) (.slice A k cap)
  | rows {n e : Nat} {f : Nat → List D} {r : Value} (hl : ∀ i, i < n → (f i).length = e) (h : DR U w (.lst n (flatN n f)) r) : DR U w (.rows n e f) r
  | nsl : DR U w .nsl (.slice none 0 0)
  | lptr {cs : List D} {ad : Addr} (f : Nat → Value) (hu : U ad.block) (ha : ∀ j, j < cs.length → w.cell? (ad.add j) = some (f j))
      (hv : ∀ (j : Nat) (c : D), cs[j]? = some c → DR U w c (f j)) : DR U w (.lptr cs) (.pointer (some ad))
  | nilp : DR U w .nilp (.pointer none)
  | nmap : DR U w .nmap (.map none)
  | fn (f : FuncId) : DR U w (.fn f) (.func (.func f) #[] #[])
  | nfn : DR U w .nfn .nilFunc
  | nifc : DR U w .nifc .nilIface

theorem DR.mono {U U' : Nat → Prop} {w w' : World} (hU : ∀ x, U x → U' x) (hw : ∀ x, U x → w'.heap[x]? = w.heap[x]?) {v : D} {r : Value} (h : DR U w v r) : DR U' w' v r := by
  induction h with
  | bool b => exact .bool b
  | int k i h => exact .int k i h
  | str s h => exact .str s h
  | lst f hk hc ha hv ih =>
    refine .lst f hk hc (fun j hj => ?_) ih
    obtain ⟨ad, h1, h2, h3⟩ := ha j hj
    exact ⟨ad, h1, hU _ h2, cell_of_block (by rw [add_block]; exact hw _ h2) h3⟩
  | rows hl h ih => exact .rows hl ih
  | nsl => exact .nsl
  | lptr f hu ha hv ih => exact .lptr f (hU _ hu) (fun j hj => cell_of_block (by rw [add_block]; exact hw _ hu) (ha j hj)) ih
  | nilp => exact .nilp
  | nmap => exact .nmap
  | fn f => exact .fn f
  | nfn => exact .nfn
  | nifc => exact .nifc
theorem DR.nil_lst {U : Nat → Prop} {w : World} {r : Value} (h : DR U w .nsl r) : DR U w (.lst 0 []) r := by
  cases h
  exact .lst (fun _ => undef) (Nat.le_refl _) (by unfold maxLen; omega) (fun j hj => by simp at hj) (fun j c hj => by simp at hj)

/-- A block's size. -/
def BSize (w : World) (x z : Nat) : Prop := ∃ (arr : Array Value) (t : TypeId) (f : Nat × Nat), w.heap[x]? = some (.cells arr t f) ∧ arr.size = z

/-- What a symbolic value tells of a real one. m: where the blocks at hand lie (none: a row without a block yet); n: names below it have been given. -/
inductive VR (U : Nat → Prop) (m : Nat → Option Nat) (n : Nat) (w : World) : V → Value → Prop where
  | un (v : Value) : VR U m n w .un v
  | d {x : D} {v : Value} (h : DR U w x v) : VR U m n w (.d x) v
  | nn {b : Bool} {x : D} {v : Value} (h : DR U w x v) (hn : ∃ a k c, v = .slice a k c ∧ a.isNone = b) : VR U m n w (.nn b x) v
  | sl {e id off k x cap z : Nat} (hid : id < n) (hm : m id = some x) (hk : k ≤ cap) (hc : cap ≤ maxLen) (hz : BSize w x z) (hs : off + cap * e ≤ z) : VR U m n w (.sl e id off k) (.slice (some ⟨x, off, none⟩) k cap)
  | sl0 {e id off : Nat} (hid : id < n) (hm : m id = none) : VR U m n w (.sl e id off 0) (.slice none 0 0)
  | ptr {id off x : Nat} (hid : id < n) (hm : m id = some x) : VR U m n w (.ptr id off) (.pointer (some ⟨x, off, none⟩))
  | el {e id i j x : Nat} (hid : id < n) (hm : m id = some x) : VR U m n w (.el e id i j) (.pointer (some ⟨x, i * e + j, none⟩))
  | map {id x : Nat} (hid : id < n) (hm : m id = some x) : VR U m n w (.map id) (.map (some x))
  | fn {f : FuncId} {a c : List V} {as cs : Array Value} (la : a.length = as.size) (lc : c.length = cs.size)
      (ha : ∀ (j : Nat) (x : V) (v : Value), a[j]? = some x → as[j]? = some v → VR U m n w x v)
      (hc : ∀ (j : Nat) (x : V) (v : Value), c[j]? = some x → cs[j]? = some v → VR U m n w x v) : VR U m n w (.fn f a c) (.func (.func f) as cs)
  | ifc {t : TypeId} {v : V} {r : Value} (h : VR U m n w v r) : VR U m n w (.ifc t v) (.iface t r)
  | agg {cs : List V} {vs : Array Value} (hl : cs.length = vs.size) (h : ∀ (j : Nat) (c : V) (v : Value), cs[j]? = some c → vs[j]? = some v → VR U m n w c v) : VR U m n w (.agg cs) (.agg vs)
  | tup {cs : List V} {vs : Array Value} (hl : cs.length = vs.size) (h : ∀ (j : Nat) (c : V) (v : Value), cs[j]? = some c → vs[j]? = some v → VR U m n w c v) : VR U m n w (.tup cs) (.tuple vs)

theorem VR.mono {U U' : Nat → Prop} {m m' : Nat → Option Nat} {n n' : Nat} {w w' : World} (hU : ∀ x, U x → U' x) (hw : ∀ x, U x → w'.heap[x]? = w.heap[x]?) (hz : ∀ x z, BSize w x z → BSize w' x z) (hn : n ≤ n') (hm : ∀ i, i < n → m' i = m i)
    {v : V} {r : Value} (h : VR U m n w v r) : VR U' m' n' w' v r := by
  induction h with
  | un v => exact .un v
  | d h => exact .d (h.mono hU hw)
  | nn h hn => exact .nn (h.mono hU hw) hn
  | sl hid hx hk hc h1 h2 => exact .sl (by omega) (by rw [hm _ hid]; exact hx) hk hc (hz _ _ h1) h2
  | sl0 hid hx => exact .sl0 (by omega) (by rw [hm _ hid]; exact hx)
  | ptr hid hx => exact .ptr (by omega) (by rw [hm _ hid]; exact hx)
  | el hid hx => exact .el (by omega) (by rw [hm _ hid]; exact hx)
  | map hid hx => exact .map (by omega) (by rw [hm _ hid]; exact hx)
  | fn la lc ha hc iha ihc => exact .fn la lc iha ihc
  | ifc h ih => exact .ifc ih
  | agg hl h ih => exact .agg hl ih
  | tup hl h ih => exact .tup hl ih

mutual
/-- A value names a block at hand. -/
def V.has (i : Nat) : V → Bool
  | .sl _ id _ _ => Nat.beq id i
  | .ptr id _ => Nat.beq id i
  | .el _ id _ _ => Nat.beq id i
  | .map id => Nat.beq id i
  | .fn _ a c => hasL i a || hasL i c
  | .ifc _ v => v.has i
  | .agg cs => hasL i cs
  | .tup vs => hasL i vs
  | .un => false
  | .d _ => false
  | .nn _ _ => false
def hasL (i : Nat) : List V → Bool
  | [] => false
  | v :: r => v.has i || hasL i r
end
theorem hasL_get {i : Nat} {l : List V} (h : hasL i l = false) {j : Nat} {v : V} (hj : l[j]? = some v) : v.has i = false := by
  induction l generalizing j with
  | nil => simp at hj
  | cons x r ih =>
    simp only [hasL, Bool.or_eq_false_iff] at h
    cases j with
    | zero => simp at hj; subst hj; exact h.1
    | succ j => exact ih h.2 (by simpa using hj)
theorem ne_of_beq {a b : Nat} (h : Nat.beq a b = false) : a ≠ b := by
  rintro rfl; rw [Nat.beq_refl] at h; cases h
/-- A block lies elsewhere: what doesn't name it stays. -/
theorem VR.remap {U : Nat → Prop} {m m' : Nat → Option Nat} {n : Nat} {w : World} {i : Nat} (hm : ∀ j, j ≠ i → m' j = m j) {v : V} {r : Value} (h : VR U m n w v r) (hv : v.has i = false) : VR U m' n w v r := by
  induction h with
  | un v => exact .un v
  | d h => exact .d h
  | nn h hn => exact .nn h hn
  | sl hid hx hk hc h1 h2 => exact .sl hid (by rw [hm _ (ne_of_beq (by simpa [V.has] using hv))]; exact hx) hk hc h1 h2
  | sl0 hid hx => exact .sl0 hid (by rw [hm _ (ne_of_beq (by simpa [V.has] using hv))]; exact hx)
  | ptr hid hx => exact .ptr hid (by rw [hm _ (ne_of_beq (by simpa [V.has] using hv))]; exact hx)
  | el hid hx => exact .el hid (by rw [hm _ (ne_of_beq (by simpa [V.has] using hv))]; exact hx)
  | map hid hx => exact .map hid (by rw [hm _ (ne_of_beq (by simpa [V.has] using hv))]; exact hx)
  | fn la lc ha hc iha ihc =>
    simp only [V.has, Bool.or_eq_false_iff] at hv
    exact .fn la lc (fun j x v h1 h2 => iha j x v h1 h2 (hasL_get hv.1 h1)) (fun j x v h1 h2 => ihc j x v h1 h2 (hasL_get hv.2 h1))
  | ifc h ih => simp only [V.has] at hv; exact .ifc (ih hv)
  | agg hl h ih => simp only [V.has] at hv; exact .agg hl (fun j x v h1 h2 => ih j x v h1 h2 (hasL_get hv h1))
  | tup hl h ih => simp only [V.has] at hv; exact .tup hl (fun j x v h1 h2 => ih j x v h1 h2 (hasL_get hv h1))

/-- What lies in a block at hand. -/
inductive Blk where
  | cells (cs : List V)
  | dat (cs : List D)
  | rows (n e : Nat) (f : Nat → List D)
  | fm (q : IntKind) (g : Bool) (c : Nat) (has : Int → Bool) (val : Int → List D)
def Blk.has (i : Nat) : Blk → Bool
  | .cells cs => hasL i cs
  | .dat _ => false
  | .rows _ _ _ => false
  | .fm _ _ _ _ _ => false

abbrev Heap := List (Nat × Option Blk)
def lk {α : Type} : List (Nat × α) → Nat → Option α
  | [], _ => none
  | (k, v) :: r, i => bif Nat.beq k i then some v else lk r i

theorem lk_cons {α : Type} (k : Nat) (v : α) (r : List (Nat × α)) (i : Nat) : lk ((k, v) :: r) i = if k = i then some v else lk r i := by
  show (bif Nat.beq k i then some v else lk r i) = _
  by_cases h : k = i
  · subst h; simp
  · have e : Nat.beq k i = false := by
      cases e : Nat.beq k i
      · rfl
      · exact absurd (Nat.eq_of_beq_eq_true e) h
    rw [e, if_neg h]; rfl
theorem lk_here {α : Type} (k : Nat) (v : α) (r : List (Nat × α)) : lk ((k, v) :: r) k = some v := by rw [lk_cons, if_pos rfl]
theorem lk_there {α : Type} {k : Nat} {v : α} {r : List (Nat × α)} {i : Nat} (h : k ≠ i) : lk ((k, v) :: r) i = lk r i := by rw [lk_cons, if_neg h]
theorem lk_mem {α : Type} {l : List (Nat × α)} {t : Nat} {x : α} (h : lk l t = some x) : (t, x) ∈ l := by
  induction l with
  | nil => simp [lk] at h
  | cons p r ih =>
    obtain ⟨i, u⟩ := p
    rw [lk_cons] at h
    split at h
    · rename_i h1; subst h1; injection h with h; subst h; simp
    · exact List.mem_cons_of_mem _ (ih h)

/-- A row of cells, and the real one. -/
def CR {α : Type} (R : α → Value → Prop) (w : World) (x : Nat) (cs : List α) : Prop :=
  ∃ (arr : Array Value) (t : TypeId), w.heap[x]? = some (.cells arr t (0, 0)) ∧ cs.length ≤ arr.size ∧ ∀ (j : Nat) (c : α) (v : Value), cs[j]? = some c → arr[j]? = some v → R c v

/-- A map's value, of one cell or of several. -/
def mkD (g : Bool) (l : List D) : V := match g with
  | true => .agg (l.map .d)
  | false => match l with
    | [c] => .d c
    | _ => .un
/-- A map's entries: which keys are there, and what they have; the order is not told. -/
structure MapR (U : Nat → Prop) (w : World) (q : IntKind) (g : Bool) (c : Nat) (has : Int → Bool) (val : Int → List D) (ents : Array MapEntry) (clock : Nat) : Prop where
  size : ents.size = c
  st : MapKept.Stamped ents clock
  key : ∀ (j : Nat) (r : MapEntry), ents[j]? = some r → ∃ i, r.key = .int q i ∧ inR q i ∧ has i = true ∧ VR U (fun _ => none) 0 w (mkD g (val i)) r.val
  all : ∀ i, has i = true → ∃ (j : Nat) (r : MapEntry), ents[j]? = some r ∧ r.key = .int q i
theorem MapR.mono {U U' : Nat → Prop} {w w' : World} {q : IntKind} {g : Bool} {c : Nat} {has : Int → Bool} {val : Int → List D} {ents : Array MapEntry} {clock : Nat} (hU : ∀ x, U x → U' x) (hw : ∀ x, U x → w'.heap[x]? = w.heap[x]?) (hz : ∀ x z, BSize w x z → BSize w' x z) (h : MapR U w q g c has val ents clock) : MapR U' w' q g c has val ents clock :=
  ⟨h.size, h.st, fun j r hj => by
    obtain ⟨i, h1, h2, h3, h4⟩ := h.key j r hj
    exact ⟨i, h1, h2, h3, h4.mono hU hw hz (Nat.le_refl _) (fun _ _ => rfl)⟩, h.all⟩
/-- A block at hand, and the real one. -/
inductive BR (U : Nat → Prop) (m : Nat → Option Nat) (n : Nat) (w : World) : Option Nat → Blk → Prop where
  | cells {x : Nat} {cs : List V} (h : CR (VR U m n w) w x cs) : BR U m n w (some x) (.cells cs)
  | dat {x : Nat} {cs : List D} (h : CR (DR U w) w x cs) : BR U m n w (some x) (.dat cs)
  | rows {x k e : Nat} {f : Nat → List D} (hl : ∀ i, i < k → (f i).length = e) (h : CR (DR U w) w x (flatN k f)) : BR U m n w (some x) (.rows k e f)
  | rows0 {e : Nat} {f : Nat → List D} : BR U m n w none (.rows 0 e f)
  | cells0 : BR U m n w none (.cells [])
  | dat0 : BR U m n w none (.dat [])
  | fm {x : Nat} {q : IntKind} {g : Bool} {c : Nat} {has : Int → Bool} {val : Int → List D} (ents : Array MapEntry) (clock : Nat) (h : w.heap[x]? = some (.map ents clock)) (r : MapR U w q g c has val ents clock) : BR U m n w (some x) (.fm q g c has val)

/-- A block is at hand. -/
def Own (m : Nat → Option Nat) (b : Heap) (x : Nat) : Prop := ∃ id blk, lk b id = some (some blk) ∧ m id = some x

structure HR (U : Nat → Prop) (m : Nat → Option Nat) (n : Nat) (b : Heap) (w : World) : Prop where
  live : ∀ id blk, lk b id = some (some blk) → id < n ∧ BR U m n w (m id) blk
  ok : ∀ id blk x, lk b id = some (some blk) → m id = some x → ¬ U x ∧ x < w.heap.size
  inj : ∀ id id' blk blk' x, lk b id = some (some blk) → lk b id' = some (some blk') → m id = some x → m id' = some x → id = id'
  ulow : ∀ x, U x → x < w.heap.size

/-- How a state goes on: what is not at hand stays as it is. B: names below it stay where they are. -/
structure Stp (B : Nat) (U : Nat → Prop) (m : Nat → Option Nat) (n : Nat) (b : Heap) (w : World) (U' : Nat → Prop) (m' : Nat → Option Nat) (n' : Nat) (b' : Heap) (w' : World) : Prop where
  hn : n ≤ n'
  hm : ∀ i, i < B → m' i = m i
  hU : ∀ x, U x → U' x
  size : w.heap.size ≤ w'.heap.size
  os : w'.os = w.os
  tape : w'.tape = w.tape
  output : w'.output = w.output
  keep : ∀ x, x < w.heap.size → ¬ Own m b x → w'.heap[x]? = w.heap[x]?
  own : ∀ x, x < w.heap.size → Own m' b' x → Own m b x
  lim : ∀ x, x < w.heap.size → U' x → U x ∨ Own m b x
  hz : ∀ x z, BSize w x z → BSize w' x z

theorem Stp.refl (B : Nat) (U : Nat → Prop) (m : Nat → Option Nat) (n : Nat) (b : Heap) (w : World) : Stp B U m n b w U m n b w :=
  ⟨Nat.le_refl _, fun _ _ => rfl, fun _ h => h, Nat.le_refl _, rfl, rfl, rfl, fun _ _ _ => rfl, fun _ _ h => h, fun _ _ h => .inl h, fun _ _ h => h⟩
theorem Stp.trans {B : Nat} {U U1 U2 : Nat → Prop} {m m1 m2 : Nat → Option Nat} {n n1 n2 : Nat} {b b1 b2 : Heap} {w w1 w2 : World} (h : Stp B U m n b w U1 m1 n1 b1 w1) (k : Stp B U1 m1 n1 b1 w1 U2 m2 n2 b2 w2) : Stp B U m n b w U2 m2 n2 b2 w2 where
  hn := Nat.le_trans h.hn k.hn
  hm := fun i hi => by rw [k.hm i hi, h.hm i hi]
  hU := fun x hx => k.hU x (h.hU x hx)
  size := Nat.le_trans h.size k.size
  os := k.os.trans h.os
  tape := k.tape.trans h.tape
  output := k.output.trans h.output
  keep := fun x hx hn => by rw [k.keep x (Nat.lt_of_lt_of_le hx h.size) (fun h1 => hn (h.own x hx h1)), h.keep x hx hn]
  own := fun x hx hx2 => h.own x hx (k.own x (Nat.lt_of_lt_of_le hx h.size) hx2)
  lim := fun x hx hx2 => by
    rcases k.lim x (Nat.lt_of_lt_of_le hx h.size) hx2 with h1 | h1
    · exact h.lim x hx h1
    · exact .inr (h.own x hx h1)
  hz := fun x z hx => k.hz x z (h.hz x z hx)
theorem Stp.low {B B' : Nat} {U U1 : Nat → Prop} {m m1 : Nat → Option Nat} {n n1 : Nat} {b b1 : Heap} {w w1 : World} (h : Stp B U m n b w U1 m1 n1 b1 w1) (hb : B' ≤ B) : Stp B' U m n b w U1 m1 n1 b1 w1 :=
  ⟨h.hn, fun i hi => h.hm i (by omega), h.hU, h.size, h.os, h.tape, h.output, h.keep, h.own, h.lim, h.hz⟩

theorem HR.notOwn {U : Nat → Prop} {m : Nat → Option Nat} {n : Nat} {b : Heap} {w : World} (h : HR U m n b w) {x : Nat} (hx : U x) : ¬ Own m b x := by
  rintro ⟨id, blk, h1, h2⟩
  exact (h.ok id blk x h1 h2).1 hx
theorem DR.stp {B : Nat} {U U' : Nat → Prop} {m m' : Nat → Option Nat} {n n' : Nat} {b b' : Heap} {w w' : World} (hH : HR U m n b w) (s : Stp B U m n b w U' m' n' b' w') {v : D} {r : Value} (h : DR U w v r) : DR U' w' v r :=
  h.mono s.hU (fun x hx => s.keep x (hH.ulow x hx) (hH.notOwn hx))
theorem VR.stp {U U' : Nat → Prop} {m m' : Nat → Option Nat} {n n' : Nat} {b b' : Heap} {w w' : World} (hH : HR U m n b w) (s : Stp n U m n b w U' m' n' b' w') {v : V} {r : Value} (h : VR U m n w v r) : VR U' m' n' w' v r :=
  h.mono s.hU (fun x hx => s.keep x (hH.ulow x hx) (hH.notOwn hx)) s.hz s.hn s.hm

abbrev Slots := List (Nat × V)
structure Hp where
  n : Nat
  b : Heap

/-- The symbolic state tells of the real one. -/
structure SR (k B : Nat) (U : Nat → Prop) (m : Nat → Option Nat) (s : Slots) (h : Hp) (a : Act) (w : World) : Prop where
  slots : ∀ t v, lk s t = some v → ∃ r, a.tmps[t]? = some r ∧ VR U m h.n w v r
  size : a.tmps.size = k
  defers : a.defers = []
  heap : HR U m h.n h.b w
  base : B ≤ h.n

theorem SR.stp {k B : Nat} {U U' : Nat → Prop} {m m' : Nat → Option Nat} {s : Slots} {h h' : Hp} {a : Act} {w w' : World} (hs : SR k B U m s h a w) (st : Stp h.n U m h.n h.b w U' m' h'.n h'.b w') (hh : HR U' m' h'.n h'.b w') : SR k B U' m' s h' a w' where
  slots := fun t v hv => by
    obtain ⟨r, h1, h2⟩ := hs.slots t v hv
    exact ⟨r, h1, h2.stp hs.heap st⟩
  size := hs.size
  defers := hs.defers
  heap := hh
  base := Nat.le_trans hs.base st.hn
theorem SR.put {k B : Nat} {U : Nat → Prop} {m : Nat → Option Nat} {s : Slots} {h : Hp} {a : Act} {w : World} (hs : SR k B U m s h a w) {d : Nat} (hd : Nat.blt d k = true) {v : V} {r : Value} (hv : VR U m h.n w v r) : SR k B U m ((d, v) :: s) h (a.put (some d) r) w where
  slots := fun t u hu => by
    rw [lk_cons] at hu
    have e : (a.put (some d) r).tmps = a.tmps.setIfInBounds d r := rfl
    rw [e, Array.getElem?_setIfInBounds]
    split at hu
    · rename_i h1; subst h1; injection hu with hu; subst hu
      rw [if_pos rfl, if_pos (by rw [hs.size]; exact Nat.le_of_ble_eq_true hd)]; exact ⟨r, rfl, hv⟩
    · rename_i h1; rw [if_neg h1]; exact hs.slots t u hu
  size := by simp [Act.put, hs.size]
  defers := hs.defers
  heap := hs.heap
  base := hs.base
/-- What is known of a value is less. -/
def VLe (v v' : V) : Prop := ∀ (U : Nat → Prop) (m : Nat → Option Nat) (n : Nat) (w : World) (r : Value), VR U m n w v r → VR U m n w v' r
theorem flatN_ext {α : Type} {n : Nat} {f g : Nat → List α} (h : ∀ i, i < n → f i = g i) : flatN n f = flatN n g := by
  unfold flatN
  induction n with
  | zero => rfl
  | succ n ih => rw [List.range_succ, List.flatMap_append, List.flatMap_append, ih (fun i hi => h i (by omega))]; simp [h n (by omega)]
theorem DR.ext {U : Nat → Prop} {w : World} {n e : Nat} {f g : Nat → List D} {r : Value} (h : ∀ i, i < n → f i = g i) (k : DR U w (.rows n e f) r) : DR U w (.rows n e g) r := by
  cases k with | rows hl k => exact .rows (fun i hi => by rw [← h i hi]; exact hl i hi) (by rw [← flatN_ext h]; exact k)
theorem VLe.refl (v : V) : VLe v v := fun _ _ _ _ _ h => h
theorem VLe.un (v : V) : VLe v .un := fun _ _ _ _ _ _ => .un _
theorem VLe.nil : VLe (.d .nsl) (.d (.lst 0 [])) := fun _ _ _ _ _ h => by cases h with | d h => exact .d h.nil_lst
theorem VLe.nilR (e : Nat) (f : Nat → List D) : VLe (.d .nsl) (.d (.rows 0 e f)) := fun _ _ _ _ _ h => by
  cases h with | d h => exact .d (.rows (fun i hi => by omega) h.nil_lst)
theorem VLe.ofL {n e : Nat} {cs : List D} {f : Nat → List D} (h : cs = flatN n f) (hl : ∀ i, i < n → (f i).length = e) : VLe (.d (.lst n cs)) (.d (.rows n e f)) := fun _ _ _ _ _ k => by
  cases k with | d k => subst h; exact .d (.rows hl k)
theorem VLe.toL {n e : Nat} {f : Nat → List D} : VLe (.d (.rows n e f)) (.d (.lst n (flatN n f))) := fun _ _ _ _ _ k => by
  cases k with | d k => cases k with | rows hl k => exact .d k
theorem VLe.ext {n e : Nat} {f g : Nat → List D} (h : ∀ i, i < n → f i = g i) : VLe (.d (.rows n e f)) (.d (.rows n e g)) := fun _ _ _ _ _ k => by
  cases k with | d k => exact .d (k.ext h)
theorem VLe.trans {a b c : V} (h : VLe a b) (k : VLe b c) : VLe a c := fun U m n w r x => k U m n w r (h U m n w r x)
theorem VLe.of_eq {a b : V} (h : a = b) : VLe a b := h ▸ .refl a
/-- Less is known of each one of a list. -/
def LLe (l l' : List V) : Prop := l.length = l'.length ∧ ∀ (j : Nat) (x x' : V), l[j]? = some x → l'[j]? = some x' → VLe x x'
theorem LLe.nil : LLe [] [] := ⟨rfl, fun j x x' h => by simp at h⟩
theorem LLe.cons {v v' : V} {l l' : List V} (h : VLe v v') (k : LLe l l') : LLe (v :: l) (v' :: l') := ⟨by simp [k.1], fun j x x' h1 h2 => by
  cases j with
  | zero => simp at h1 h2; subst h1; subst h2; exact h
  | succ j => exact k.2 j x x' (by simpa using h1) (by simpa using h2)⟩
theorem LLe.refl (l : List V) : LLe l l := ⟨rfl, fun j x x' h1 h2 => by rw [h1] at h2; injection h2 with h2; subst h2; exact .refl _⟩
theorem LLe.get {l l' : List V} (h : LLe l l') {j : Nat} {x' : V} (hx : l'[j]? = some x') : ∃ x, l[j]? = some x ∧ VLe x x' := by
  have hj : j < l.length := by rw [h.1]; exact (List.getElem?_eq_some_iff.1 hx).1
  exact ⟨_, List.getElem?_eq_getElem hj, h.2 j _ _ (List.getElem?_eq_getElem hj) hx⟩
theorem VLe.agg {l l' : List V} (h : LLe l l') : VLe (.agg l) (.agg l') := fun U m n w r k => by
  cases k with | agg hl k => exact .agg (by rw [← h.1]; exact hl) (fun j c v h1 h2 => by
    obtain ⟨x, h3, h4⟩ := h.get h1
    exact h4 _ _ _ _ _ (k j x v h3 h2))
theorem VLe.tup {l l' : List V} (h : LLe l l') : VLe (.tup l) (.tup l') := fun U m n w r k => by
  cases k with | tup hl k => exact .tup (by rw [← h.1]; exact hl) (fun j c v h1 h2 => by
    obtain ⟨x, h3, h4⟩ := h.get h1
    exact h4 _ _ _ _ _ (k j x v h3 h2))
theorem VLe.fn {f : FuncId} {a a' c c' : List V} (h : LLe a a') (g : LLe c c') : VLe (.fn f a c) (.fn f a' c') := fun U m n w r k => by
  cases k with | fn la lc ha hc =>
  exact .fn (by rw [← h.1]; exact la) (by rw [← g.1]; exact lc) (fun j c v h1 h2 => by
    obtain ⟨x, h3, h4⟩ := h.get h1
    exact h4 _ _ _ _ _ (ha j x v h3 h2)) (fun j c v h1 h2 => by
    obtain ⟨x, h3, h4⟩ := g.get h1
    exact h4 _ _ _ _ _ (hc j x v h3 h2))
theorem VR.le {U : Nat → Prop} {m : Nat → Option Nat} {n : Nat} {w : World} {v v' : V} {r : Value} (h : VR U m n w v r) (l : VLe v v') : VR U m n w v' r := l U m n w r h
/-- What is known of a frame is less. -/
def Le (s s' : Slots) : Prop := ∀ p ∈ s', ∃ v, lk s p.1 = some v ∧ VLe v p.2
theorem Le.nil (s : Slots) : Le s [] := fun p hp => by simp at hp
theorem Le.cons {s s' : Slots} {i : Nat} {v : V} (h : lk s i = some v) (k : Le s s') : Le s ((i, v) :: s') := fun p hp => by
  rcases List.mem_cons.1 hp with rfl | hp
  · exact ⟨_, h, .refl _⟩
  · exact k p hp
theorem Le.consN {s s' : Slots} {i : Nat} (h : lk s i = some (.d .nsl)) (k : Le s s') : Le s ((i, .d (.lst 0 [])) :: s') := fun p hp => by
  rcases List.mem_cons.1 hp with rfl | hp
  · exact ⟨_, h, .nil⟩
  · exact k p hp
theorem SR.le {k B : Nat} {U : Nat → Prop} {m : Nat → Option Nat} {s s' : Slots} {h : Hp} {a : Act} {w : World} (hs : SR k B U m s h a w) (hl : Le s s') : SR k B U m s' h a w where
  slots := fun t v hv => by
    obtain ⟨u, h1, h2⟩ := hl _ (lk_mem hv)
    obtain ⟨r, h3, h4⟩ := hs.slots t u h1
    exact ⟨r, h3, h4.le h2⟩
  size := hs.size
  defers := hs.defers
  heap := hs.heap
  base := hs.base
end Go.Proofs.Ythkoinngmcpjgaa

/-
  The logic's judgements: of code, of operations, of calls; its rules for code. Conditions: none.
-/
namespace Go.Proofs.Ythkoinngmcpjgaa
open Go.RowKit

/-- What is known of a type. -/
structure Ty where
  d : TypeDesc
  size : Nat
  bytes : Nat
  zero : Option Value

def TyOk (P : Program) (t : TypeId) (ty : Ty) : Prop := P.underlying t = some ty.d ∧ ∃ i, P.info? t = some i ∧ i.size = ty.size ∧ i.bytes = ty.bytes ∧ i.zero = ty.zero

/-- The program, and what is known of it. -/
structure Env where
  P : Program
  tab : List (Nat × Ty)
  ok : ∀ t ty, lk tab t = some ty → TyOk P t ty
  mixed : P.follows .mixedOrders = true

theorem tab_ok {P : Program} {tab : List (Nat × Ty)} (h : ∀ p ∈ tab, TyOk P p.1 p.2) : ∀ t ty, lk tab t = some ty → TyOk P t ty := fun _ _ h1 => h _ (lk_mem h1)

abbrev Post := Exit → Slots → Hp → Prop

/-- What the real state is behind code that the judgement speaks of. -/
def RP (k B : Nat) (U : Nat → Prop) (m : Nat → Option Nat) (h : Hp) (w : World) (Q : Post) : Exit → Act → World → Prop := fun e a' w' =>
  ∃ U' m' s' h', Q e s' h' ∧ SR k B U' m' s' h' a' w' ∧ Stp B U m h.n h.b w U' m' h'.n h'.b w'

/-- Code from a symbolic state on. -/
def T (E : Env) (k B : Nat) (c : Code) (s : Slots) (h : Hp) (Q : Post) : Prop :=
  ∀ U m a w, SR k B U m s h a w → c.wp E.P (RP k B U m h w Q) a w

/-- Operations in the text's order. -/
def TO (E : Env) (k B : Nat) (ops : Array Oper) (l : List Oper) (s : Slots) (h : Hp) (Q : Post) : Prop :=
  ∀ U m a w, SR k B U m s h a w → wpList E.P ops (RP k B U m h w Q) l a w

structure VRs (U : Nat → Prop) (m : Nat → Option Nat) (n : Nat) (w : World) (l : List V) (vs : Array Value) : Prop where
  len : l.length = vs.size
  at_ : ∀ (j : Nat) (x : V) (v : Value), l[j]? = some x → vs[j]? = some v → VR U m n w x v

/-- A call of a function. -/
def Call (E : Env) (f : FuncId) (args : List V) (h : Hp) (Q : V → Hp → Prop) : Prop :=
  ∀ U m w vs, HR U m h.n h.b w → VRs U m h.n w args vs → Calls E.P f vs w fun e w' =>
    ∃ r R U' m' h', e = .returned R ∧ Q r h' ∧ VR U' m' h'.n w' r R ∧ HR U' m' h'.n h'.b w' ∧ Stp h.n U m h.n h.b w U' m' h'.n h'.b w'

section
variable {E : Env} {k B : Nat} {s s' : Slots} {h h' : Hp} {Q Q' : Post}

theorem RP_trans {U U' : Nat → Prop} {m m' : Nat → Option Nat} {h' : Hp} {w w' : World} (st : Stp B U m h.n h.b w U' m' h'.n h'.b w') {e : Exit} {a : Act} {w2 : World}
    (r : RP k B U' m' h' w' Q e a w2) : RP k B U m h w Q e a w2 := by
  obtain ⟨U2, m2, s2, h2, q, r2, st2⟩ := r
  exact ⟨U2, m2, s2, h2, q, r2, st.trans st2⟩
theorem T.mono {c : Code} (t : T E k B c s h Q) (hq : ∀ e s h, Q e s h → Q' e s h) : T E k B c s h Q' := fun U m a w r =>
  wp_mono (t U m a w r) fun e a' w' ⟨U', m', s', h', q, rest⟩ => ⟨U', m', s', h', hq _ _ _ q, rest⟩
theorem T.le {c : Code} (t : T E k B c s' h Q) (hl : Le s s') : T E k B c s h Q := fun U m a w r => t U m a w (r.le hl)
theorem T.skip (q : Q .normal s h) : T E k B .skip s h Q := fun U m a w r => wp_skip ⟨U, m, s, h, q, r, .refl ..⟩
theorem T.label {l : Nat} (q : Q .normal s h) : T E k B (.label l) s h Q := fun U m a w r => wp_label ⟨U, m, s, h, q, r, .refl ..⟩
theorem T.exit {id : Nat} (q : Q (.exit id) s h) : T E k B (.exit id) s h Q := fun U m a w r => wp_exit ⟨U, m, s, h, q, r, .refl ..⟩
theorem T.goto {l : Nat} (q : Q (.goto l) s h) : T E k B (.goto l) s h Q := fun U m a w r => wp_goto ⟨U, m, s, h, q, r, .refl ..⟩
theorem T.ret (q : Q .ret s h) : T E k B .ret s h Q := fun U m a w r => wp_ret ⟨U, m, s, h, q, r, .refl ..⟩

def thenP (n : Slots → Hp → Prop) (Q : Post) : Post
  | .normal, s, h => n s h
  | e, s, h => Q e s h
theorem thenP_normal (n : Slots → Hp → Prop) (Q : Post) (s : Slots) (h : Hp) : thenP n Q .normal s h = n s h := rfl
theorem thenP_ret (n : Slots → Hp → Prop) (Q : Post) (s : Slots) (h : Hp) : thenP n Q .ret s h = Q .ret s h := rfl
theorem thenP_exit (n : Slots → Hp → Prop) (Q : Post) (i : Nat) (s : Slots) (h : Hp) : thenP n Q (.exit i) s h = Q (.exit i) s h := rfl
theorem T.seq {x y : Code} (t : T E k B x s h (thenP (fun s' h' => T E k B y s' h' Q) Q)) : T E k B (.seq x y) s h Q := fun U m a w r =>
  wp_seq (wp_mono (t U m a w r) fun e a' w' ⟨U', m', s', h', q, r', st⟩ => by
    cases e with
    | normal => exact wp_mono (q U' m' a' w' r') fun e a2 w2 h2 => RP_trans st h2
    | _ => exact ⟨U', m', s', h', q, r', st⟩)
theorem SR.tmp {U : Nat → Prop} {m : Nat → Option Nat} {a : Act} {w : World} (r : SR k B U m s h a w) {t : Nat} {v : V} (hv : lk s t = some v) : VR U m h.n w v (a.eval (.tmp t)) := by
  obtain ⟨x, h1, h2⟩ := r.slots t v hv
  show VR U m h.n w v (a.tmps.getD t undef)
  rw [Array.getD_eq_getD_getElem?, h1]; exact h2
theorem T.cond {t : Nat} {b : Bool} {x y : Code} (hb : lk s t = some (vb b)) (ht : b = true → T E k B x s h Q) (hf : b = false → T E k B y s h Q) : T E k B (.cond (.tmp t) x y) s h Q := fun U m a w r => by
  have h1 := r.tmp hb
  generalize hv : a.eval (.tmp t) = v at h1
  cases h1 with | d h1 =>
  cases h1
  exact wp_cond_split hv (fun e => ht e U m a w r) (fun e => hf e U m a w r)
theorem T.cond_const {b : Bool} {x y : Code} (ht : b = true → T E k B x s h Q) (hf : b = false → T E k B y s h Q) : T E k B (.cond (.const (.bool b)) x y) s h Q := fun U m a w r =>
  wp_cond_split (t := b) rfl (fun e => ht e U m a w r) (fun e => hf e U m a w r)
def inBlockP (id : Nat) (Q : Post) : Post
  | .exit id', s, h => if id' = id then Q .normal s h else Q (.exit id') s h
  | e, s, h => Q e s h
theorem T.block {id : Nat} {c : Code} (t : T E k B c s h (inBlockP id Q)) : T E k B (.block id c) s h Q := fun U m a w r =>
  wp_block (wp_mono (t U m a w r) fun e a' w' ⟨U', m', s', h', q, r', st⟩ => by
    cases e with
    | exit i =>
      simp only [inBlockP] at q
      simp only [Exit.inBlock]
      split
      · rename_i hi; rw [if_pos hi] at q; exact ⟨U', m', s', h', q, r', st⟩
      · rename_i hi; rw [if_neg hi] at q; exact ⟨U', m', s', h', q, r', st⟩
    | _ => exact ⟨U', m', s', h', q, r', st⟩)
theorem rounds_mono {P : Program} {c : Code} {R R' : Exit → Act → World → Prop} (hq : ∀ e a w, R e a w → R' e a w) : ∀ n a w, Code.rounds P c R n a w → Code.rounds P c R' n a w
  | 0, _, _, h => h
  | n + 1, a, w, h => by
    rw [rounds_succ] at h ⊢
    refine wp_mono h fun e a' w' q => ?_
    cases e with
    | normal => exact rounds_mono hq n _ _ q
    | _ => exact hq _ _ _ q
/-- A loop: the states of its head are named. -/
theorem T.loop {α : Type} (S : α → Slots) (H : α → Hp) (I : α → Prop) (μ : α → Nat) {c : Code} (x : α) (hl : Le s (S x)) (hh : h = H x) (hI : I x)
    (round : ∀ x, I x → T E k B c (S x) (H x) (thenP (fun s' h' => ∃ y, I y ∧ μ y < μ x ∧ Le s' (S y) ∧ h' = H y) Q)) : T E k B (.loop c) s h Q := by
  subst hh
  have key : ∀ n x, μ x < n → I x → ∀ U m a w, SR k B U m (S x) (H x) a w → Code.rounds E.P c (RP k B U m (H x) w Q) n a w := by
    intro n
    induction n with
    | zero => intro x hx; omega
    | succ n ih =>
      intro x hx hI U m a w r
      rw [rounds_succ]
      refine wp_mono (round x hI U m a w r) fun e a' w' ⟨U', m', s', h', q, r', st⟩ => ?_
      cases e with
      | normal =>
        obtain ⟨y, hy, hm, hl, rfl⟩ := q
        have := ih y (by omega) hy U' m' a' w' (r'.le hl)
        refine rounds_mono ?_ _ _ _ this
        exact fun e a2 w2 h2 => RP_trans st h2
      | _ => exact ⟨U', m', s', h', q, r', st⟩
  exact fun U m a w r => wp_loop_rounds (μ x + 1) (key _ x (by omega) hI U m a w (r.le hl))
theorem T.of_region {id : Nat} {l : List Oper} (t : TO E k B l.toArray l s h Q) : T E k B (.region id l.toArray false) s h Q := fun U m a w r => wp_region_lit (t U m a w r)
theorem TO.nil {ops : Array Oper} (q : Q .normal s h) : TO E k B ops [] s h Q := fun U m a w r => wpList_nil ⟨U, m, s, h, q, r, .refl ..⟩
theorem TO.le {ops : Array Oper} {l : List Oper} (t : TO E k B ops l s' h Q) (hl : Le s s') : TO E k B ops l s h Q := fun U m a w r => t U m a w (r.le hl)
end
end Go.Proofs.Ythkoinngmcpjgaa

/-
  The logic's rules for operations that yield a value and change nothing: numbers, tests, addresses, reads. Conditions: none.
-/
namespace Go.Proofs.Ythkoinngmcpjgaa
open Go.RowKit

def Same0 (w w' : World) : Prop := ∀ x, x < w.heap.size → w'.heap[x]? = w.heap[x]?
theorem Same0.refl (w : World) : Same0 w w := fun _ _ => rfl
theorem Same0.cell {w w' : World} (h : Same0 w w') {ad : Addr} {v : Value} (hc : w.cell? ad = some v) : w'.cell? ad = some v :=
  cell_of_block (h _ (World.block_lt_of_cell? w ad hc)) hc

theorem wrapR (k : IntKind) (n : Int) : inR k (k.wrap n) := wrap_within k n
def loK : IntKind → Int
  | .i8 => -128 | .i16 => -32768 | .i32 => -2147483648 | .i64 => -9223372036854775808
  | .u8 => 0 | .u16 => 0 | .u32 => 0 | .u64 => 0
def hiK : IntKind → Int
  | .i8 => 127 | .i16 => 32767 | .i32 => 2147483647 | .i64 => 9223372036854775807
  | .u8 => 255 | .u16 => 65535 | .u32 => 4294967295 | .u64 => 18446744073709551615
theorem inR_iff (k : IntKind) (i : Int) : inR k i ↔ loK k ≤ i ∧ i ≤ hiK k := by
  cases k <;> simp [inR, loK, hiK, IntKind.min, IntKind.max, IntKind.bits, IntKind.signed]
/-- Not above, below: reckoned by the numbers' forms. -/
def leZ : Int → Int → Bool
  | .ofNat m, .ofNat n => Nat.ble m n
  | .negSucc _, .ofNat _ => true
  | .ofNat _, .negSucc _ => false
  | .negSucc m, .negSucc n => Nat.ble n m
theorem leZ_eq (a b : Int) : leZ a b = decide (a ≤ b) := by
  have hb : ∀ m n : Nat, Nat.ble m n = decide (m ≤ n) := fun m n => by
    rw [Bool.eq_iff_iff, Nat.ble_eq]; simp
  rcases a with m | m <;> rcases b with n | n <;> simp only [leZ, hb, Int.ofNat_eq_natCast]
  · congr 1; exact propext ⟨fun h => by omega, fun h => by omega⟩
  · symm; rw [decide_eq_false_iff_not]; omega
  · symm; rw [decide_eq_true_eq]; omega
  · congr 1; exact propext ⟨fun h => by omega, fun h => by omega⟩
def ltZ (a b : Int) : Bool := leZ (a + 1) b
theorem ltZ_eq (a b : Int) : ltZ a b = decide (a < b) := by unfold ltZ; rw [leZ_eq]; rfl
def inRb (k : IntKind) (i : Int) : Bool := leZ (loK k) i && leZ i (hiK k)
theorem inRb_iff {k : IntKind} {i : Int} : inRb k i = true ↔ inR k i := by simp [inRb, inR_iff, leZ_eq]
theorem wrap_eq {k : IntKind} {i : Int} (h : inR k i) : k.wrap i = i := by
  rw [inR_iff] at h
  cases k <;> simp only [loK, hiK] at h <;> simp [IntKind.wrap, IntKind.bits, IntKind.signed] <;> (try split) <;> omega
def absC : Value → Option D
  | .bool b => some (.bool b)
  | .int k n => match inRb k n with
    | true => some (.int k n)
    | false => none
  | .string s => match Nat.ble s.size 9223372036854775807 with
    | true => some (.str s)
    | false => none
  | .slice none 0 0 => some .nsl
  | .pointer none => some .nilp
  | .map none => some .nmap
  | .nilFunc => some .nfn
  | .nilIface => some .nifc
  | _ => none
def absL : List Value → Option (List V)
  | [] => some []
  | v :: r => match absC v, absL r with
    | some x, some l => some (.d x :: l)
    | _, _ => none
def absV : Value → Option V
  | .agg cs => (absL cs.toList).map .agg
  | .tuple cs => (absL cs.toList).map .tup
  | v => (absC v).map .d
/-- What an operand is. -/
def evO (s : Slots) : Operand → Option V
  | .tmp t => lk s t
  | .const c => absV c
  | .func f => some (.d (.fn f))
  | .global _ => none
theorem absC_ok {U : Nat → Prop} {w : World} {c : Value} {x : D} (h : absC c = some x) : DR U w x c := by
  unfold absC at h
  split at h <;> first
    | (split at h <;> first | (rename_i h1; injection h with h; subst h; first | exact .int _ _ (inRb_iff.1 h1) | exact .str _ (Nat.le_of_ble_eq_true h1)) | cases h)
    | (injection h with h; subst h; constructor)
    | cases h
theorem absL_ok {U : Nat → Prop} {m : Nat → Option Nat} {n : Nat} {w : World} : ∀ {l : List Value} {vs : List V}, absL l = some vs → vs.length = l.length ∧ ∀ (j : Nat) (c : V) (v : Value), vs[j]? = some c → l[j]? = some v → VR U m n w c v
  | [], vs, h => by simp only [absL, Option.some.injEq] at h; subst h; exact ⟨rfl, fun j c v h1 => by simp at h1⟩
  | v :: r, vs, h => by
    simp only [absL] at h
    split at h
    · rename_i x l h1 h2
      injection h with h; subst h
      obtain ⟨h3, h4⟩ := absL_ok (U := U) (m := m) (n := n) (w := w) h2
      refine ⟨by simp [h3], fun j c u h5 h6 => ?_⟩
      cases j with
      | zero => simp at h5 h6; subst h5; subst h6; exact .d (absC_ok h1)
      | succ j => exact h4 j c u (by simpa using h5) (by simpa using h6)
    · cases h
theorem absV_ok {U : Nat → Prop} {m : Nat → Option Nat} {n : Nat} {w : World} {c : Value} {x : V} (h : absV c = some x) : VR U m n w x c := by
  unfold absV at h
  split at h
  · obtain ⟨l, h1, rfl⟩ := Option.map_eq_some_iff.1 h
    obtain ⟨h2, h3⟩ := absL_ok (U := U) (m := m) (n := n) (w := w) h1
    exact .agg (by simpa using h2) (fun j c v h4 h5 => h3 j c v h4 (by simpa using h5))
  · obtain ⟨l, h1, rfl⟩ := Option.map_eq_some_iff.1 h
    obtain ⟨h2, h3⟩ := absL_ok (U := U) (m := m) (n := n) (w := w) h1
    exact .tup (by simpa using h2) (fun j c v h4 h5 => h3 j c v h4 (by simpa using h5))
  · obtain ⟨d, h1, rfl⟩ := Option.map_eq_some_iff.1 h
    exact .d (absC_ok h1)

section
variable {E : Env} {k B : Nat} {s s' : Slots} {h h' : Hp} {Q Q' : Post} {U : Nat → Prop} {m : Nat → Option Nat} {a : Act} {w : World}

theorem SR.opnd (r : SR k B U m s h a w) {x : Operand} {v : V} (hv : evO s x = some v) : VR U m h.n w v (a.eval x) := by
  cases x with
  | tmp t => exact r.tmp hv
  | const c => exact absV_ok hv
  | func f => simp only [evO, Option.some.injEq] at hv; subst hv; exact .d (.fn f)
  | global g => cases hv
theorem SR.evInt (r : SR k B U m s h a w) {x : Operand} {q : IntKind} {i : Int} (hv : evO s x = some (.d (.int q i))) : a.eval x = .int q i := by
  have h1 := r.opnd hv
  generalize a.eval x = y at h1
  cases h1 with | d h1 => cases h1; rfl
theorem SR.evIntR (r : SR k B U m s h a w) {x : Operand} {q : IntKind} {i : Int} (hv : evO s x = some (.d (.int q i))) : inR q i := by
  have h1 := r.opnd hv
  generalize a.eval x = y at h1
  cases h1 with | d h1 => cases h1; assumption
theorem tmodR {q : IntKind} {i j : Int} (h : inR q i) (_ : j ≠ 0) : inR q (i.tmod j) := by
  rw [inR_iff] at h ⊢
  have h3 := Nat.mod_le i.natAbs j.natAbs
  have h1 : 0 ≤ i → 0 ≤ i.tmod j ∧ i.tmod j ≤ i := fun hi => by
    have h4 := Int.tmod_nonneg j hi
    have h2 : (i.tmod j).natAbs = i.natAbs % j.natAbs := Int.natAbs_tmod ..
    omega
  have h2 : i ≤ 0 → i ≤ i.tmod j ∧ i.tmod j ≤ 0 := fun hi => by
    have h5 : (-i).tmod j = -(i.tmod j) := Int.neg_tmod ..
    have h4 : 0 ≤ (-i).tmod j := Int.tmod_nonneg j (by omega)
    have h2 : (i.tmod j).natAbs = i.natAbs % j.natAbs := Int.natAbs_tmod ..
    omega
  rcases Int.le_total 0 i with hi | hi
  · have := h1 hi; cases q <;> simp only [loK, hiK] at h ⊢ <;> omega
  · have := h2 hi; cases q <;> simp only [loK, hiK] at h ⊢ <;> omega
theorem shrR {q : IntKind} {i : Int} (h : inR q i) (n : Nat) : inR q (i.fdiv (2 ^ n)) := by
  rw [inR_iff] at h ⊢
  have hp : (0 : Int) < 2 ^ n := by exact_mod_cast Nat.two_pow_pos n
  rw [Int.fdiv_eq_ediv_of_nonneg _ (by omega)]
  have h1 : 0 ≤ i → 0 ≤ i / 2 ^ n ∧ i / 2 ^ n ≤ i := fun hi => ⟨Int.ediv_nonneg hi (by omega), Int.ediv_le_self _ hi⟩
  have h2 : i < 0 → i ≤ i / 2 ^ n ∧ i / 2 ^ n < 0 := fun hi => by
    refine ⟨?_, Int.ediv_neg_of_neg_of_pos hi hp⟩
    rw [Int.le_ediv_iff_mul_le hp]
    have : i * 2 ^ n ≤ i * 1 := Int.mul_le_mul_of_nonpos_left (by omega) (by omega)
    omega
  rcases Int.lt_or_le i 0 with hi | hi
  · have := h2 hi; cases q <;> simp only [loK, hiK] at h ⊢ <;> omega
  · have := h1 hi; cases q <;> simp only [loK, hiK] at h ⊢ <;> omega
theorem SR.evBool (r : SR k B U m s h a w) {x : Operand} {b : Bool} (hv : evO s x = some (.d (.bool b))) : a.eval x = .bool b := by
  have h1 := r.opnd hv
  generalize a.eval x = y at h1
  cases h1 with | d h1 => cases h1; rfl
theorem SR.evStr (r : SR k B U m s h a w) {x : Operand} {b : ByteArray} (hv : evO s x = some (.d (.str b))) : a.eval x = .string b := by
  have h1 := r.opnd hv
  generalize a.eval x = y at h1
  cases h1 with | d h1 => cases h1; rfl

/-- An operation yields a value, whatever else has been made. -/
def Yl (ρ : Bool) (E : Env) (k B : Nat) (s : Slots) (h : Hp) (o : Oper) (v : V) : Prop :=
  ∀ U m a w, SR k B U m s h a w → ∃ r, VR U m h.n w v r ∧ ∀ w', (ρ = true → Same0 w w') → (execOp a.eval o).run E.P w' = .ok (.value r) w'

variable {ops : Array Oper} {rest : List Oper} {o : Oper} {v : V} {d : Nat} {ρ : Bool}
theorem TO.yl (hg : o.guard = none) (hd : o.dst = some d) (hk : Nat.blt d k = true) (y : Yl ρ E k B s h o v) (t : TO E k B ops rest ((d, v) :: s) h Q) : TO E k B ops (o :: rest) s h Q := fun U m a w r => by
  obtain ⟨x, h1, h2⟩ := y U m a w r
  refine wpList_plain hg fun K hK => ?_
  unfold Oper.wp
  rw [h2 w (fun _ => .refl w), Oper.upon_value, hd]
  exact hK _ _ (t U m _ w (r.put hk h1))
def yieldSlot (ops : Array Oper) (j : Nat) : Option Nat := (ops[j]?).bind (·.dst)
theorem SR.yielded (r : SR k B U m s h a w) {j dj : Nat} {b : Bool} (hj : yieldSlot ops j = some dj) (hb : lk s dj = some (vb b)) : Go.yielded ops a.tmps j = some b := by
  obtain ⟨x, h1, h2⟩ := r.slots dj _ hb
  cases h2 with | d h2 =>
  cases h2
  unfold Go.yielded
  unfold yieldSlot at hj
  rw [hj]
  simp [h1]
/-- A guard that is open. -/
theorem TO.open {j dj : Nat} {want b : Bool} (hg : o.guard = some (j, want)) (hj : yieldSlot ops j = some dj) (hb : lk s dj = some (vb b)) (hw : b = want) (t : TO E k B ops ({ o with guard := none } :: rest) s h Q) : TO E k B ops (o :: rest) s h Q := fun U m a w r => by
  have h1 := t U m a w r
  have h2 := r.yielded hj hb
  subst hw
  unfold wpList at h1 ⊢
  have e1 : Region.wanted o (Go.yielded ops a.tmps) = true := by simp [Region.wanted, hg, h2]
  rw [if_pos (by simp [Region.wanted])] at h1
  rw [if_pos e1]
  exact h1
/-- A guard that is shut. -/
theorem TO.shut {j dj : Nat} {want b : Bool} (hg : o.guard = some (j, want)) (hd : o.dst = some d) (hk : Nat.blt d k = true) (hj : yieldSlot ops j = some dj) (hb : lk s dj = some (vb b)) (hw : b = !want) (t : TO E k B ops rest ((d, .un) :: s) h Q) : TO E k B ops (o :: rest) s h Q := fun U m a w r => by
  have h2 := r.yielded hj hb
  subst hw
  unfold wpList
  have e1 : Region.wanted o (Go.yielded ops a.tmps) = false := by simp [Region.wanted, hg, h2]
  rw [if_neg (by simp [e1]), hd]
  exact t U m _ w (r.put hk (.un _))

theorem Yl.move {x : Operand} (ho : o.op = .move x) (hx : evO s x = some v) : Yl ρ E k B s h o v := fun U m a w r => ⟨_, r.opnd hx, fun w' _ => by simp [execOp, ho]⟩
theorem Yl.assign {x : Operand} (ho : o.op = .assign x) (hx : evO s x = some v) : Yl ρ E k B s h o v := fun U m a w r => ⟨_, r.opnd hx, fun w' _ => by simp [execOp, ho]⟩
theorem Yl.pickT {c x y : Operand} {b : Bool} (ho : o.op = .pick c x y) (hc : evO s c = some (vb b)) (hb : b = true) (hx : evO s x = some v) : Yl ρ E k B s h o v := fun U m a w r =>
  ⟨_, r.opnd hx, fun w' _ => by subst hb; simp [execOp, ho, r.evBool hc, asBool]⟩
theorem Yl.pickF {c x y : Operand} {b : Bool} (ho : o.op = .pick c x y) (hc : evO s c = some (vb b)) (hb : b = false) (hy : evO s y = some v) : Yl ρ E k B s h o v := fun U m a w r =>
  ⟨_, r.opnd hy, fun w' _ => by subst hb; simp [execOp, ho, r.evBool hc, asBool]⟩
theorem Yl.pickB {c x y : Operand} {b b1 b2 : Bool} (ho : o.op = .pick c x y) (hc : evO s c = some (vb b)) (hx : evO s x = some (vb b1)) (hy : evO s y = some (vb b2)) : Yl ρ E k B s h o (vb (bif b then b1 else b2)) := fun U m a w r =>
  ⟨_, .d (.bool _), fun w' _ => by cases b <;> simp [execOp, ho, r.evBool hc, r.evBool hx, r.evBool hy, asBool]⟩
section
variable {t u : TypeId} {x y : Operand} {q : IntKind} {i j c : Int}
theorem Yl.add (ho : o.op = .binOp .add t x y u) (hx : evO s x = some (.d (.int q i))) (hy : evO s y = some (.d (.int q j))) (hc : q.wrap (i + j) = c) : Yl ρ E k B s h o (.d (.int q c)) := fun U m a w r =>
  ⟨_, .d (.int q c (hc ▸ wrapR q _)), fun w' _ => by simp [execOp, ho, r.evInt hx, r.evInt hy, eqGuard, binOp, Op.intArith, hc]⟩
theorem Yl.sub (ho : o.op = .binOp .sub t x y u) (hx : evO s x = some (.d (.int q i))) (hy : evO s y = some (.d (.int q j))) (hc : q.wrap (i - j) = c) : Yl ρ E k B s h o (.d (.int q c)) := fun U m a w r =>
  ⟨_, .d (.int q c (hc ▸ wrapR q _)), fun w' _ => by simp [execOp, ho, r.evInt hx, r.evInt hy, eqGuard, binOp, Op.intArith, hc]⟩
theorem Yl.mul (ho : o.op = .binOp .mul t x y u) (hx : evO s x = some (.d (.int q i))) (hy : evO s y = some (.d (.int q j))) (hc : q.wrap (i * j) = c) : Yl ρ E k B s h o (.d (.int q c)) := fun U m a w r =>
  ⟨_, .d (.int q c (hc ▸ wrapR q _)), fun w' _ => by simp [execOp, ho, r.evInt hx, r.evInt hy, eqGuard, binOp, Op.intArith, hc]⟩
theorem Yl.quo (ho : o.op = .binOp .quo t x y u) (hx : evO s x = some (.d (.int q i))) (hy : evO s y = some (.d (.int q j))) (h0 : j ≠ 0) (hc : q.wrap (i.tdiv j) = c) : Yl ρ E k B s h o (.d (.int q c)) := fun U m a w r =>
  ⟨_, .d (.int q c (hc ▸ wrapR q _)), fun w' _ => by simp [execOp, ho, r.evInt hx, r.evInt hy, eqGuard, binOp, Op.intDiv, h0, hc]⟩
theorem Yl.rem (ho : o.op = .binOp .rem t x y u) (hx : evO s x = some (.d (.int q i))) (hy : evO s y = some (.d (.int q j))) (h0 : j ≠ 0) (hc : i.tmod j = c) : Yl ρ E k B s h o (.d (.int q c)) := fun U m a w r =>
  ⟨_, .d (.int q c (hc ▸ tmodR (r.evIntR hx) h0)), fun w' _ => by simp [execOp, ho, r.evInt hx, r.evInt hy, eqGuard, binOp, Op.intDiv, h0, hc]⟩
theorem Yl.and (ho : o.op = .binOp .and t x y u) (hx : evO s x = some (.d (.int q i))) (hy : evO s y = some (.d (.int q j))) (hc : q.wrap ((BitVec.ofInt q.bits i &&& BitVec.ofInt q.bits j).toNat) = c) : Yl ρ E k B s h o (.d (.int q c)) := fun U m a w r =>
  ⟨_, .d (.int q c (hc ▸ wrapR q _)), fun w' _ => by simp [execOp, ho, r.evInt hx, r.evInt hy, eqGuard, binOp, Op.intBits, ← hc]⟩
theorem Yl.or (ho : o.op = .binOp .or t x y u) (hx : evO s x = some (.d (.int q i))) (hy : evO s y = some (.d (.int q j))) (hc : q.wrap ((BitVec.ofInt q.bits i ||| BitVec.ofInt q.bits j).toNat) = c) : Yl ρ E k B s h o (.d (.int q c)) := fun U m a w r =>
  ⟨_, .d (.int q c (hc ▸ wrapR q _)), fun w' _ => by simp [execOp, ho, r.evInt hx, r.evInt hy, eqGuard, binOp, Op.intBits, ← hc]⟩
theorem Yl.xor (ho : o.op = .binOp .xor t x y u) (hx : evO s x = some (.d (.int q i))) (hy : evO s y = some (.d (.int q j))) (hc : q.wrap ((BitVec.ofInt q.bits i ^^^ BitVec.ofInt q.bits j).toNat) = c) : Yl ρ E k B s h o (.d (.int q c)) := fun U m a w r =>
  ⟨_, .d (.int q c (hc ▸ wrapR q _)), fun w' _ => by simp [execOp, ho, r.evInt hx, r.evInt hy, eqGuard, binOp, Op.intBits, ← hc]⟩
theorem Yl.andNot (ho : o.op = .binOp .andNot t x y u) (hx : evO s x = some (.d (.int q i))) (hy : evO s y = some (.d (.int q j))) (hc : q.wrap ((BitVec.ofInt q.bits i &&& ~~~ (BitVec.ofInt q.bits j)).toNat) = c) : Yl ρ E k B s h o (.d (.int q c)) := fun U m a w r =>
  ⟨_, .d (.int q c (hc ▸ wrapR q _)), fun w' _ => by simp [execOp, ho, r.evInt hx, r.evInt hy, eqGuard, binOp, Op.intBits, ← hc]⟩
theorem Yl.shl {q' : IntKind} (ho : o.op = .binOp .shl t x y u) (hx : evO s x = some (.d (.int q i))) (hy : evO s y = some (.d (.int q' j))) (h0 : 0 ≤ j) (hc : q.wrap (i * 2 ^ (min j.toNat q.bits)) = c) : Yl ρ E k B s h o (.d (.int q c)) := fun U m a w r =>
  ⟨_, .d (.int q c (hc ▸ wrapR q _)), fun w' _ => by simp [execOp, ho, r.evInt hx, r.evInt hy, eqGuard, binOp, Op.shift, show ¬ j < 0 by omega, hc]⟩
theorem Yl.shr {q' : IntKind} (ho : o.op = .binOp .shr t x y u) (hx : evO s x = some (.d (.int q i))) (hy : evO s y = some (.d (.int q' j))) (h0 : 0 ≤ j) (hc : i.fdiv (2 ^ (min j.toNat q.bits)) = c) : Yl ρ E k B s h o (.d (.int q c)) := fun U m a w r =>
  ⟨_, .d (.int q c (hc ▸ shrR (r.evIntR hx) _)), fun w' _ => by simp [execOp, ho, r.evInt hx, r.evInt hy, eqGuard, binOp, Op.shift, show ¬ j < 0 by omega, hc]⟩
theorem Yl.lss (ho : o.op = .binOp .lss t x y u) (hx : evO s x = some (.d (.int q i))) (hy : evO s y = some (.d (.int q j))) : Yl ρ E k B s h o (vb (decide (i < j))) := fun U m a w r =>
  ⟨_, .d (.bool _), fun w' _ => by simp [execOp, ho, r.evInt hx, r.evInt hy, eqGuard, binOp, Op.intCmp]⟩
theorem Yl.leq (ho : o.op = .binOp .leq t x y u) (hx : evO s x = some (.d (.int q i))) (hy : evO s y = some (.d (.int q j))) : Yl ρ E k B s h o (vb (decide (i ≤ j))) := fun U m a w r =>
  ⟨_, .d (.bool _), fun w' _ => by simp [execOp, ho, r.evInt hx, r.evInt hy, eqGuard, binOp, Op.intCmp]⟩
theorem Yl.gtr (ho : o.op = .binOp .gtr t x y u) (hx : evO s x = some (.d (.int q i))) (hy : evO s y = some (.d (.int q j))) : Yl ρ E k B s h o (vb (decide (j < i))) := fun U m a w r =>
  ⟨_, .d (.bool _), fun w' _ => by simp [execOp, ho, r.evInt hx, r.evInt hy, eqGuard, binOp, Op.intCmp]⟩
theorem Yl.geq (ho : o.op = .binOp .geq t x y u) (hx : evO s x = some (.d (.int q i))) (hy : evO s y = some (.d (.int q j))) : Yl ρ E k B s h o (vb (decide (j ≤ i))) := fun U m a w r =>
  ⟨_, .d (.bool _), fun w' _ => by simp [execOp, ho, r.evInt hx, r.evInt hy, eqGuard, binOp, Op.intCmp]⟩
theorem Yl.eql (ho : o.op = .binOp .eql t x y u) (hx : evO s x = some (.d (.int q i))) (hy : evO s y = some (.d (.int q j))) : Yl ρ E k B s h o (vb (decide (i = j))) := fun U m a w r =>
  ⟨_, .d (.bool _), fun w' _ => by simp [execOp, ho, r.evInt hx, r.evInt hy, eqGuard, binOp, Op.intCmp]; rfl⟩
theorem Yl.neq (ho : o.op = .binOp .neq t x y u) (hx : evO s x = some (.d (.int q i))) (hy : evO s y = some (.d (.int q j))) : Yl ρ E k B s h o (vb (!decide (i = j))) := fun U m a w r =>
  ⟨_, .d (.bool _), fun w' _ => by simp [execOp, ho, r.evInt hx, r.evInt hy, eqGuard, binOp, Op.intCmp, bne]; rfl⟩
theorem Yl.neg (ho : o.op = .unOp .neg t x) (hx : evO s x = some (.d (.int q i))) (hc : q.wrap (0 - i) = c) : Yl ρ E k B s h o (.d (.int q c)) := fun U m a w r =>
  ⟨_, .d (.int q c (hc ▸ wrapR q _)), fun w' _ => by simp only [Int.zero_sub] at hc; simp [execOp, ho, r.evInt hx, Op.unary, Op.intArith, hc]⟩
theorem Yl.not {b : Bool} (ho : o.op = .unOp .not t x) (hx : evO s x = some (vb b)) : Yl ρ E k B s h o (vb (!b)) := fun U m a w r =>
  ⟨_, .d (.bool _), fun w' _ => by simp [execOp, ho, r.evBool hx, Op.unary]⟩
end
end
end Go.Proofs.Ythkoinngmcpjgaa

/-
  The logic's rules for addresses, reads, parts of values. Conditions: none.
-/
namespace Go.Proofs.Ythkoinngmcpjgaa
open Go.RowKit

section
variable {E : Env} {k B : Nat} {s s' : Slots} {h h' : Hp} {Q Q' : Post} {U : Nat → Prop} {m : Nat → Option Nat} {a : Act} {w : World} {o : Oper} {v : V} {t u : TypeId} {td : TypeDesc} {tz tb : Nat} {tr : Option Value} {x y : Operand} {ρ : Bool}

theorem und (ht : lk E.tab t = some ⟨td, tz, tb, tr⟩) (w : World) : (underlying t).run E.P w = .ok td w := run_underlying (E.ok t _ ht).1 w
theorem szo (ht : lk E.tab t = some ⟨td, tz, tb, tr⟩) (w : World) : (sizeOf t).run E.P w = .ok tz w := by
  obtain ⟨_, i, h1, h2, _⟩ := E.ok t _ ht
  simp [sizeOf, typeInfo, h1, h2]
def aggD : TypeDesc → Bool
  | .struct _ | .array _ _ => true
  | _ => false
theorem isagg (ht : lk E.tab t = some ⟨td, tz, tb, tr⟩) (w : World) : (isAgg t).run E.P w = .ok (aggD td) w := by
  obtain ⟨h0, _⟩ := E.ok t _ ht
  have := run_underlying h0 w
  unfold isAgg
  rw [Sem.run_bind, this]
  cases td <;> rfl
theorem zer (ht : lk E.tab t = some ⟨td, tz, tb, tr⟩) {z : Value} (hz : tr = some z) (w : World) : (zeroValue t).run E.P w = .ok z w := by
  obtain ⟨_, i, h1, _, _, h2⟩ := E.ok t _ ht
  simp [zeroValue, typeInfo, h1, h2, hz]

theorem run_loads {P : Program} {w : World} {a : Addr} {f : Nat → Value} : ∀ (n i : Nat) (acc : Array Value), (∀ j, j < n → w.cell? (a.add (i + j)) = some (f (i + j))) →
    (loadCellsFrom a i n acc).run P w = .ok (acc ++ ((List.range' i n).map f).toArray) w
  | 0, i, acc, _ => by simp [loadCellsFrom]
  | n + 1, i, acc, hc => by
    have h0 := hc 0 (by omega)
    have ih := run_loads (P := P) (w := w) (a := a) (f := f) n (i + 1) (acc.push (f i)) (fun j hj => by have := hc (j + 1) (by omega); rwa [show i + (j + 1) = i + 1 + j by omega] at this)
    simp only [Nat.add_zero] at h0
    simp only [loadCellsFrom, Sem.run_bind, run_load, h0, Result.andThen_ok, ih]
    simp [List.range'_succ]

/-- The value of a variable: so many cells from an address on. -/
theorem run_var {P : Program} {w : World} {t : TypeId} {ad : Addr} {f : Nat → Value} {g : Bool} {z : Nat} (hg : (isAgg t).run P w = .ok g w) (hs : (sizeOf t).run P w = .ok z w) (hc : ∀ j, j < (if g then z else 1) → w.cell? (ad.add j) = some (f j)) :
    (loadVar t ad).run P w = .ok (if g then .agg ((List.range z).map f).toArray else f 0) w := by
  unfold loadVar
  rw [Sem.run_bind, hg]
  cases g
  · have := hc 0 (by simp)
    have e : ad.add 0 = ad := by unfold Addr.add; simp
    rw [e] at this
    simp [this]
  · simp only [Result.andThen_ok, if_true, Sem.run_bind, hs, loadCells]
    rw [run_loads z 0 #[] (fun j hj => by simpa using hc j (by simpa using hj))]
    simp [List.range_eq_range']

/-- The cells that a variable's value is made of, as a value. -/
def mk (g : Bool) (l : List V) : V := bif g then .agg l else l.headD .un
theorem mk_ok {U : Nat → Prop} {m : Nat → Option Nat} {n : Nat} {w : World} {g : Bool} {z : Nat} {l : List V} {f : Nat → Value} (hl : l.length = if g then z else 1) (hv : ∀ j c, l[j]? = some c → VR U m n w c (f j)) :
    VR U m n w (mk g l) (if g then .agg ((List.range z).map f).toArray else f 0) := by
  cases g
  · match l, hl with
    | [c], _ => exact hv 0 c rfl
  · simp only [if_true] at hl
    refine .agg (by simpa using hl) (fun j c v h1 h2 => ?_)
    have hj : j < z := by rw [← hl]; exact (List.getElem?_eq_some_iff.1 h1).1
    simp [hj] at h2
    subst h2
    exact hv j c h1

theorem SR.evPtr (r : SR k B U m s h a w) {x : Operand} {id off : Nat} (hv : evO s x = some (.ptr id off)) : ∃ b, m id = some b ∧ a.eval x = .pointer (some ⟨b, off, none⟩) ∧ id < h.n := by
  have h1 := r.opnd hv
  generalize a.eval x = y at h1
  cases h1 with | ptr h2 h3 => exact ⟨_, h3, rfl, h2⟩
theorem Same0.le {w w' : World} (hs : Same0 w w') {x : Nat} {o : Obj} (h : w.heap[x]? = some o) : w'.heap[x]? = some o := by
  rw [hs x (Array.getElem?_eq_some_iff.1 h).1]; exact h
theorem cell_of_arr {w : World} {x : Nat} {arr : Array Value} {t : TypeId} {f : Nat × Nat} (h : w.heap[x]? = some (.cells arr t f)) (i : Nat) : w.cell? ⟨x, i, none⟩ = arr[i]? := by
  unfold World.cell?; simp [h]

theorem take_get {α : Type} {l : List α} {off z j : Nat} {r : List α} (hl : (l.drop off).take z = r) {c : α} (hc : r[j]? = some c) : l[off + j]? = some c := by
  subst hl
  rw [List.getElem?_take] at hc
  split at hc
  · rwa [List.getElem?_drop] at hc
  · cases hc

theorem Yl.load {id off : Nat} {cs l : List V} (ho : o.op = .load t x) (ht : lk E.tab t = some ⟨td, tz, tb, tr⟩) (hx : evO s x = some (.ptr id off)) (hb : lk h.b id = some (some (.cells cs)))
    (hl : (cs.drop off).take (bif aggD td then tz else 1) = l) (hz : Nat.beq l.length (bif aggD td then tz else 1) = true) : Yl true E k B s h o (mk (aggD td) l) := fun U m a w r => by
  obtain ⟨b, h1, h2, h3⟩ := r.evPtr hx
  obtain ⟨_, hbr⟩ := r.heap.live id _ hb
  rw [h1] at hbr
  cases hbr with | cells hbr =>
  obtain ⟨arr, et, g1, g2, g3⟩ := hbr
  have hz' := Nat.eq_of_beq_eq_true hz
  have hin : ∀ j, j < l.length → ∃ c rv, l[j]? = some c ∧ arr[off + j]? = some rv ∧ VR U m h.n w c rv := fun j hj => by
    have e1 := List.getElem?_eq_getElem hj
    have e2 := take_get hl e1
    have e3 : off + j < arr.size := Nat.lt_of_lt_of_le (List.getElem?_eq_some_iff.1 e2).1 g2
    exact ⟨_, _, e1, Array.getElem?_eq_getElem e3, g3 _ _ _ e2 (Array.getElem?_eq_getElem e3)⟩
  have hN : l.length = if aggD td = true then tz else 1 := by rw [hz']; cases aggD td <;> rfl
  refine ⟨_, mk_ok (f := fun j => arr.getD (off + j) undef) hN (fun j c hc => ?_), fun w' hw => ?_⟩
  · obtain ⟨c', rv, e1, e2, e3⟩ := hin j (List.getElem?_eq_some_iff.1 hc).1
    rw [hc] at e1; injection e1 with e1; subst e1
    rw [Array.getD_eq_getD_getElem?, e2]; exact e3
  · have := run_var (P := E.P) (w := w') (t := t) (ad := ⟨b, off, none⟩) (f := fun j => arr.getD (off + j) undef) (isagg ht w') (szo ht w') (fun j hj => by
      obtain ⟨c', rv, e1, e2, e3⟩ := hin j (by rw [hN]; exact hj)
      rw [Addr.add_lit, cell_of_arr ((hw rfl).le g1), Array.getD_eq_getD_getElem?, e2]; rfl)
    simp only [execOp, ho, Instr.loadAt, h2, Instr.sureAddr, Sem.run_bind, Sem.run_pure, Result.andThen_ok, this]
theorem Yl.loadD {id off : Nat} {cs l : List D} (ho : o.op = .load t x) (ht : lk E.tab t = some ⟨td, tz, tb, tr⟩) (hx : evO s x = some (.ptr id off)) (hb : lk h.b id = some (some (.dat cs)))
    (hl : (cs.drop off).take (bif aggD td then tz else 1) = l) (hz : Nat.beq l.length (bif aggD td then tz else 1) = true) : Yl true E k B s h o (mk (aggD td) (l.map .d)) := fun U m a w r => by
  obtain ⟨b, h1, h2, h3⟩ := r.evPtr hx
  obtain ⟨_, hbr⟩ := r.heap.live id _ hb
  rw [h1] at hbr
  cases hbr with | dat hbr =>
  obtain ⟨arr, et, g1, g2, g3⟩ := hbr
  have hz' := Nat.eq_of_beq_eq_true hz
  have hin : ∀ j, j < l.length → ∃ c rv, l[j]? = some c ∧ arr[off + j]? = some rv ∧ DR U w c rv := fun j hj => by
    have e1 := List.getElem?_eq_getElem hj
    have e2 := take_get hl e1
    have e3 : off + j < arr.size := Nat.lt_of_lt_of_le (List.getElem?_eq_some_iff.1 e2).1 g2
    exact ⟨_, _, e1, Array.getElem?_eq_getElem e3, g3 _ _ _ e2 (Array.getElem?_eq_getElem e3)⟩
  have hN : l.length = if aggD td = true then tz else 1 := by rw [hz']; cases aggD td <;> rfl
  refine ⟨_, mk_ok (f := fun j => arr.getD (off + j) undef) (by rw [List.length_map]; exact hN) (fun j c hc => ?_), fun w' hw => ?_⟩
  · rw [List.getElem?_map] at hc
    obtain ⟨c0, hc0, rfl⟩ := Option.map_eq_some_iff.1 hc
    obtain ⟨c', rv, e1, e2, e3⟩ := hin j (List.getElem?_eq_some_iff.1 hc0).1
    rw [hc0] at e1; injection e1 with e1; subst e1
    rw [Array.getD_eq_getD_getElem?, e2]; exact .d e3
  · have := run_var (P := E.P) (w := w') (t := t) (ad := ⟨b, off, none⟩) (f := fun j => arr.getD (off + j) undef) (isagg ht w') (szo ht w') (fun j hj => by
      obtain ⟨c', rv, e1, e2, e3⟩ := hin j (by rw [hN]; exact hj)
      rw [Addr.add_lit, cell_of_arr ((hw rfl).le g1), Array.getD_eq_getD_getElem?, e2]; rfl)
    simp only [execOp, ho, Instr.loadAt, h2, Instr.sureAddr, Sem.run_bind, Sem.run_pure, Result.andThen_ok, this]
theorem SR.evD (r : SR k B U m s h a w) {x : Operand} {d : D} (hv : evO s x = some (.d d)) : DR U w d (a.eval x) := by
  have h1 := r.opnd hv
  generalize a.eval x = y at h1
  cases h1 with | d h1 => exact h1
theorem Yl.loadL {cs l : List D} (ho : o.op = .load t x) (ht : lk E.tab t = some ⟨td, tz, tb, tr⟩) (hx : evO s x = some (.d (.lptr cs)))
    (hl : cs.take (bif aggD td then tz else 1) = l) (hz : Nat.beq l.length (bif aggD td then tz else 1) = true) : Yl true E k B s h o (mk (aggD td) (l.map .d)) := fun U m a w r => by
  have h1 := r.evD hx
  generalize hv : a.eval x = v at h1
  cases h1 with | @lptr _ ad f hu ha hv2 =>
  have hz' := Nat.eq_of_beq_eq_true hz
  have hin : ∀ j c, l[j]? = some c → cs[j]? = some c := fun j c hc => by
    have := take_get (l := cs) (off := 0) (by simpa using hl) hc
    simpa using this
  have hN : l.length = if aggD td = true then tz else 1 := by rw [hz']; cases aggD td <;> rfl
  refine ⟨_, mk_ok (f := f) (by rw [List.length_map]; exact hN) (fun j c hc => ?_), fun w' hw => ?_⟩
  · rw [List.getElem?_map] at hc
    obtain ⟨c0, hc0, rfl⟩ := Option.map_eq_some_iff.1 hc
    exact .d (hv2 j c0 (hin j c0 hc0))
  · have := run_var (P := E.P) (w := w') (t := t) (ad := ad) (f := f) (isagg ht w') (szo ht w') (fun j hj => (hw rfl).cell (ha j (by
      have hj' : j < l.length := by rw [hN]; exact hj
      exact (List.getElem?_eq_some_iff.1 (hin j _ (List.getElem?_eq_getElem hj'))).1)))
    simp only [execOp, ho, Instr.loadAt, hv, Instr.sureAddr, Sem.run_bind, Sem.run_pure, Result.andThen_ok, this]

/-- Fields. -/
theorem run_place {P : Program} {w : World} {ad : Addr} {f : Field} {z : Nat} (hs : (sizeOf f.type).run P w = .ok z w) (hz : z ≠ 0) : (fieldPlace ad f).run P w = .ok (ad.add f.offset) w := by
  unfold fieldPlace
  simp [hs, hz]
theorem Yl.fieldAddr {id off i : Nat} {fs : Array Field} {f : Field} {fd : TypeDesc} {fz fb : Nat} {fr : Option Value} (ho : o.op = .fieldAddr t x i) (ht : lk E.tab t = some ⟨td, tz, tb, tr⟩) (hd : td = .struct fs) (hf : fs[i]? = some f) (htf : lk E.tab f.type = some ⟨fd, fz, fb, fr⟩) (hz : Nat.beq fz 0 = false)
    (hx : evO s x = some (.ptr id off)) : Yl ρ E k B s h o (.ptr id (off + f.offset)) := fun U m a w r => by
  obtain ⟨b, h1, h2, h3⟩ := r.evPtr hx
  refine ⟨_, .ptr h3 h1, fun w' _ => ?_⟩
  have hp := run_place (P := E.P) (w := w') (ad := ⟨b, off, none⟩) (szo htf w') (ne_of_beq hz)
  have hu := und ht w'
  rw [hd] at hu
  rw [Addr.add_lit] at hp
  simp [execOp, ho, Instr.fieldAt, h2, Instr.sureAddr, hu, hf, hp]
theorem Yl.fieldAddrL {i : Nat} {cs : List D} {fs : Array Field} {f : Field} {fd : TypeDesc} {fz fb : Nat} {fr : Option Value} (ho : o.op = .fieldAddr t x i) (ht : lk E.tab t = some ⟨td, tz, tb, tr⟩) (hd : td = .struct fs) (hf : fs[i]? = some f) (htf : lk E.tab f.type = some ⟨fd, fz, fb, fr⟩) (hz : Nat.beq fz 0 = false)
    (hx : evO s x = some (.d (.lptr cs))) : Yl ρ E k B s h o (.d (.lptr (cs.drop f.offset))) := fun U m a w r => by
  have h1 := r.evD hx
  generalize hv : a.eval x = v at h1
  cases h1 with | @lptr _ ad g hu ha hv2 =>
  have add2 : ∀ j, (ad.add f.offset).add j = ad.add (f.offset + j) := fun j => by
    unfold Addr.add; split <;> split <;> split <;> simp_all [Nat.add_assoc]
  refine ⟨.pointer (some (ad.add f.offset)), .d (.lptr (fun j => g (f.offset + j)) (by rw [add_block]; exact hu) (fun j hj => by rw [add2]; exact ha _ (by rw [List.length_drop] at hj; omega)) (fun j c hc => hv2 _ c (by rw [List.getElem?_drop] at hc; exact hc))), fun w' _ => ?_⟩
  have hp := run_place (P := E.P) (w := w') (ad := ad) (szo htf w') (ne_of_beq hz)
  have hu := und ht w'
  rw [hd] at hu
  simp [execOp, ho, Instr.fieldAt, hv, Instr.sureAddr, hu, hf, hp]
/-- Elements. -/
theorem Yl.indexA {id off len : Nat} {e : TypeId} {ed : TypeDesc} {ez eb : Nat} {er : Option Value} {q : IntKind} {i : Int} (ho : o.op = .indexAddr t x y) (ht : lk E.tab t = some ⟨td, tz, tb, tr⟩) (hd : td = .array len e) (hte : lk E.tab e = some ⟨ed, ez, eb, er⟩) (hx : evO s x = some (.ptr id off)) (hy : evO s y = some (.d (.int q i))) (h0 : 0 ≤ i) (h1 : i < len) : Yl ρ E k B s h o (.ptr id (off + i.toNat * ez)) := fun U m a w r => by
  obtain ⟨b, g1, g2, g3⟩ := r.evPtr hx
  refine ⟨_, .ptr g3 g1, fun w' _ => ?_⟩
  have hu := und ht w'
  rw [hd] at hu
  simp [execOp, ho, Instr.indexAt, g2, Instr.sureAddr, hu, r.evInt hy, asIntOf, h0, h1, szo hte w', Addr.add_lit]
theorem Yl.indexS {e id off len : Nat} {el : TypeId} {ed : TypeDesc} {ez eb : Nat} {er : Option Value} {q : IntKind} {i : Int} (ho : o.op = .indexAddr t x y) (ht : lk E.tab t = some ⟨td, tz, tb, tr⟩) (hd : td = .slice el) (hte : lk E.tab el = some ⟨ed, ez, eb, er⟩) (hx : evO s x = some (.sl e id off len)) (hy : evO s y = some (.d (.int q i))) (h0 : 0 ≤ i) (h1 : i < len) : Yl ρ E k B s h o (.ptr id (off + i.toNat * ez)) := fun U m a w r => by
  have h2 := r.opnd hx
  generalize hv : a.eval x = v at h2
  cases h2 with
  | sl0 => omega
  | sl hid hm hk hc hz hs =>
  refine ⟨_, .ptr hid hm, fun w' _ => ?_⟩
  have hu := und ht w'
  rw [hd] at hu
  simp [execOp, ho, Instr.indexAt, hv, hu, r.evInt hy, asIntOf, h0, h1, szo hte w', Addr.add_lit]
theorem Yl.indexL {n : Nat} {cs el : List D} {e : TypeId} {ed : TypeDesc} {ez eb : Nat} {er : Option Value} {q : IntKind} {i : Int} (ho : o.op = .indexAddr t x y) (ht : lk E.tab t = some ⟨td, tz, tb, tr⟩) (hd : td = .slice e) (hte : lk E.tab e = some ⟨ed, ez, eb, er⟩) (hx : evO s x = some (.d (.lst n cs))) (hy : evO s y = some (.d (.int q i))) (h0 : 0 ≤ i) (h1 : i < n)
    (hl : (cs.drop (i.toNat * ez)).take ez = el) (hne : 0 < el.length) : Yl ρ E k B s h o (.d (.lptr el)) := fun U m a w r => by
  have h2 := r.evD hx
  generalize hv : a.eval x = v at h2
  cases h2 with | @lst _ _ A cap g hk hc ha hv2 =>
  have h3 : i.toNat * ez < cs.length := by
    have := hl ▸ hne
    simp only [List.length_take, List.length_drop] at this
    omega
  obtain ⟨ad, rfl, hu, _⟩ := ha _ h3
  have add2 : ∀ o j, (ad.add o).add j = ad.add (o + j) := fun o j => by
    unfold Addr.add; split <;> split <;> split <;> simp_all [Nat.add_assoc]
  have hin : ∀ j c, el[j]? = some c → cs[i.toNat * ez + j]? = some c := fun j c hc => take_get hl hc
  refine ⟨.pointer (some (ad.add (i.toNat * ez))), .d (.lptr (fun j => g (i.toNat * ez + j)) (by rw [add_block]; exact hu) (fun j hj => ?_) (fun j c hc => hv2 _ c (hin j c hc))), fun w' _ => ?_⟩
  · obtain ⟨ad', e1, _, e3⟩ := ha (i.toNat * ez + j) ((List.getElem?_eq_some_iff.1 (hin j _ (List.getElem?_eq_getElem hj))).1)
    injection e1 with e1; subst e1
    rw [add2]; exact e3
  · have hu := und ht w'
    rw [hd] at hu
    simp [execOp, ho, Instr.indexAt, hv, hu, r.evInt hy, asIntOf, h0, h1, szo hte w']
theorem Yl.indexLA {len : Nat} {cs el : List D} {e : TypeId} {ed : TypeDesc} {ez eb : Nat} {er : Option Value} {q : IntKind} {i : Int} (ho : o.op = .indexAddr t x y) (ht : lk E.tab t = some ⟨td, tz, tb, tr⟩) (hd : td = .array len e) (hte : lk E.tab e = some ⟨ed, ez, eb, er⟩) (hx : evO s x = some (.d (.lptr cs))) (hy : evO s y = some (.d (.int q i))) (h0 : 0 ≤ i) (h1 : i < len)
    (hl : (cs.drop (i.toNat * ez)).take ez = el) : Yl ρ E k B s h o (.d (.lptr el)) := fun U m a w r => by
  have h2 := r.evD hx
  generalize hv : a.eval x = v at h2
  cases h2 with | @lptr _ ad g hu ha hv2 =>
  have add2 : ∀ o j, (ad.add o).add j = ad.add (o + j) := fun o j => by
    unfold Addr.add; split <;> split <;> split <;> simp_all [Nat.add_assoc]
  have hin : ∀ j c, el[j]? = some c → cs[i.toNat * ez + j]? = some c := fun j c hc => take_get hl hc
  refine ⟨.pointer (some (ad.add (i.toNat * ez))), .d (.lptr (fun j => g (i.toNat * ez + j)) (by rw [add_block]; exact hu) (fun j hj => ?_) (fun j c hc => hv2 _ c (hin j c hc))), fun w' _ => ?_⟩
  · rw [add2]; exact ha _ ((List.getElem?_eq_some_iff.1 (hin j _ (List.getElem?_eq_getElem hj))).1)
  · have hu := und ht w'
    rw [hd] at hu
    simp [execOp, ho, Instr.indexAt, hv, Instr.sureAddr, hu, r.evInt hy, asIntOf, h0, h1, szo hte w']
/-- Lengths. -/
theorem lenR {n : Nat} (h : n ≤ maxLen) : inR .i64 (n : Int) := by
  rw [inR_iff]; simp only [loK, hiK]; unfold maxLen at h; omega
theorem zeroR : inR .i64 0 := by rw [inR_iff]; simp [loK, hiK]
theorem Yl.lenL {n : Nat} {cs : List D} {ats : Array TypeId} {el : TypeId} (ho : o.op = .call { callee := .builtin .len, args := #[x], argTypes := ats }) (ha : ats[0]? = some t) (ht : lk E.tab t = some ⟨td, tz, tb, tr⟩) (hd : td = .slice el) (hx : evO s x = some (.d (.lst n cs))) : Yl ρ E k B s h o (vi n) := fun U m a w r => by
  have h2 := r.evD hx
  generalize hv : a.eval x = v at h2
  cases h2 with | lst f hk hc g1 g2 =>
  refine ⟨_, .d (.int .i64 n (lenR (Nat.le_trans hk hc))), fun w' _ => ?_⟩
  have hu := und ht w'
  rw [hd] at hu
  simp [execOp, ho, resolve, invoke, builtin, Builtin.len_, ha, hu, hv, goInt]
theorem Yl.lenN {ats : Array TypeId} {el : TypeId} (ho : o.op = .call { callee := .builtin .len, args := #[x], argTypes := ats }) (ha : ats[0]? = some t) (ht : lk E.tab t = some ⟨td, tz, tb, tr⟩) (hd : td = .slice el) (hx : evO s x = some (.d .nsl)) : Yl ρ E k B s h o (vi 0) := fun U m a w r => by
  have h2 := r.evD hx
  generalize hv : a.eval x = v at h2
  cases h2
  refine ⟨_, .d (.int .i64 0 zeroR), fun w' _ => ?_⟩
  have hu := und ht w'
  rw [hd] at hu
  simp [execOp, ho, resolve, invoke, builtin, Builtin.len_, ha, hu, hv, goInt]
theorem Yl.lenS {e id off n : Nat} {ats : Array TypeId} {el : TypeId} (ho : o.op = .call { callee := .builtin .len, args := #[x], argTypes := ats }) (ha : ats[0]? = some t) (ht : lk E.tab t = some ⟨td, tz, tb, tr⟩) (hd : td = .slice el) (hx : evO s x = some (.sl e id off n)) : Yl ρ E k B s h o (vi n) := fun U m a w r => by
  have h2 := r.opnd hx
  generalize hv : a.eval x = v at h2
  have hu : ∀ w', (underlying t).run E.P w' = .ok (.slice el) w' := fun w' => by have hu := und ht w'; rw [hd] at hu; exact hu
  cases h2 with
  | sl hid hm hk hc hz hs => exact ⟨_, .d (.int .i64 _ (lenR (Nat.le_trans hk hc))), fun w' _ => by simp [execOp, ho, resolve, invoke, builtin, Builtin.len_, ha, hu, hv, goInt]⟩
  | sl0 => exact ⟨_, .d (.int .i64 _ zeroR), fun w' _ => by simp [execOp, ho, resolve, invoke, builtin, Builtin.len_, ha, hu, hv, goInt]⟩
theorem Yl.lenStr {b : ByteArray} {ats : Array TypeId} (ho : o.op = .call { callee := .builtin .len, args := #[x], argTypes := ats }) (ha : ats[0]? = some t) (ht : lk E.tab t = some ⟨td, tz, tb, tr⟩) (hd : td = .string) (hx : evO s x = some (.d (.str b))) : Yl ρ E k B s h o (vi b.size) := fun U m a w r => by
  have hb : b.size ≤ maxLen := by
    have h1 := r.opnd hx
    generalize a.eval x = y at h1
    cases h1 with | d h1 => cases h1; assumption
  refine ⟨_, .d (.int .i64 _ (lenR hb)), fun w' _ => ?_⟩
  have hu := und ht w'
  rw [hd] at hu
  simp [execOp, ho, resolve, invoke, builtin, Builtin.len_, ha, hu, r.evStr hx, goInt]
theorem Yl.extract {i : Nat} {vs : List V} (ho : o.op = .extract x i) (hx : evO s x = some (.tup vs)) (hi : vs[i]? = some v) : Yl ρ E k B s h o v := fun U m a w r => by
  have h2 := r.opnd hx
  generalize hv : a.eval x = y at h2
  cases h2 with | @tup _ rs hl hh =>
  have hj : i < rs.size := by rw [← hl]; exact (List.getElem?_eq_some_iff.1 hi).1
  exact ⟨rs[i], hh i v _ hi (Array.getElem?_eq_getElem hj), fun w' _ => by simp [execOp, ho, hv, Instr.extract, Array.getElem?_eq_getElem hj]⟩
theorem Yl.convInt {q q' : IntKind} {i c : Int} (ho : o.op = .convert u t x) (ht : lk E.tab t = some ⟨td, tz, tb, tr⟩) (hd : td = .int q') {ud : TypeDesc} {uz ub : Nat} {ur : Option Value} (htu : lk E.tab u = some ⟨ud, uz, ub, ur⟩) (hx : evO s x = some (.d (.int q i))) (hc : q'.wrap i = c) : Yl ρ E k B s h o (.d (.int q' c)) := fun U m a w r =>
  ⟨_, .d (.int q' c (hc ▸ wrapR q' _)), fun w' _ => by
    have hu := und ht w'; rw [hd] at hu
    have hu2 := und htu w'
    have e : (match ud, TypeDesc.int q', (Value.int q i) with | _, .int k, .int _ n => Conv.intToInt k n | _, _, _ => Conv.intToInt q' i) = Conv.intToInt q' i := by cases ud <;> rfl
    simp only [execOp, ho, convert, r.evInt hx, Sem.run_bind, hu2, hu, Result.andThen_ok]
    cases ud <;> simp [Conv.intToInt, hc]⟩
/-- A kind whose numbers another one holds. -/
def widens : IntKind → IntKind → Bool
  | .i64, .i64 | .i32, .i64 | .i16, .i64 | .i8, .i64 | .u32, .i64 | .u16, .i64 | .u8, .i64 => true
  | .u64, .u64 | .u32, .u64 | .u16, .u64 | .u8, .u64 => true
  | .u32, .u32 | .u16, .u32 | .u8, .u32 | .u16, .u16 | .u8, .u16 | .u8, .u8 => true
  | .i32, .i32 | .i16, .i16 | .i8, .i8 => true
  | _, _ => false
theorem widens_in {q q' : IntKind} {i : Int} (h : widens q q' = true) (hi : inR q i) : inR q' i := by
  rw [inR_iff] at hi ⊢
  cases q <;> cases q' <;> first | (exact absurd h (by decide)) | (simp only [loK, hiK] at hi ⊢; omega)
theorem Yl.convKeep {q q' : IntKind} {i : Int} (ho : o.op = .convert u t x) (ht : lk E.tab t = some ⟨td, tz, tb, tr⟩) (hd : td = .int q') {ud : TypeDesc} {uz ub : Nat} {ur : Option Value} (htu : lk E.tab u = some ⟨ud, uz, ub, ur⟩) (hx : evO s x = some (.d (.int q i))) (hw : widens q q' = true) : Yl ρ E k B s h o (.d (.int q' i)) := fun U m a w r =>
  Yl.convInt ho ht hd htu hx (wrap_eq (widens_in hw (r.evIntR hx))) U m a w r
/-- A part of a struct or an array. -/
theorem run_part {P : Program} {w : World} {t : TypeId} {vs : Array Value} {off z : Nat} {g : Bool} (hg : (isAgg t).run P w = .ok g w) (hs : (sizeOf t).run P w = .ok z w) (hl : off + (if g then z else 1) ≤ vs.size) :
    (part t vs off).run P w = .ok (if g then .agg ((List.range z).map (fun j => vs.getD (off + j) undef)).toArray else vs.getD (off + 0) undef) w := by
  unfold part
  rw [Sem.run_bind, hg]
  cases g
  · simp only [Bool.false_eq_true, if_false] at hl ⊢
    have : vs[off]? = some vs[off] := Array.getElem?_eq_getElem (by omega)
    simp [this, Array.getD_eq_getD_getElem?]
  · simp only [if_true] at hl ⊢
    simp only [Result.andThen_ok, if_true, Sem.run_bind, hs, Sem.run_pure]
    congr 2
    apply Array.ext
    · simp; omega
    · intro j h1 h2
      simp only [Array.size_extract] at h1
      rw [Array.getElem_extract]
      have : off + j < vs.size := by omega
      simp [Array.getElem?_eq_getElem this]
theorem part_ok {n : Nat} {cs l : List V} {vs : Array Value} {g : Bool} {z off : Nat} (hl : cs.length = vs.size) (hv : ∀ (j : Nat) (c : V) (v : Value), cs[j]? = some c → vs[j]? = some v → VR U m n w c v)
    (h1 : (cs.drop off).take (bif g then z else 1) = l) (h2 : Nat.beq l.length (bif g then z else 1) = true) : VR U m n w (mk g l) (if g then .agg ((List.range z).map (fun j => vs.getD (off + j) undef)).toArray else vs.getD (off + 0) undef) ∧ (0 < (bif g then z else 1) → off + (if g then z else 1) ≤ vs.size) := by
  have hz := Nat.eq_of_beq_eq_true h2
  have hN : l.length = if g = true then z else 1 := by rw [hz]; cases g <;> rfl
  have hin : ∀ j c, l[j]? = some c → cs[off + j]? = some c := fun j c hc => take_get h1 hc
  refine ⟨mk_ok (f := fun j => vs.getD (off + j) undef) hN (fun j c hc => ?_), fun hp => ?_⟩
  · have h3 := hin j c hc
    have h4 : off + j < vs.size := by rw [← hl]; exact (List.getElem?_eq_some_iff.1 h3).1
    have := hv _ c _ h3 (Array.getElem?_eq_getElem h4)
    rwa [Array.getD_eq_getD_getElem?, Array.getElem?_eq_getElem h4]
  · rw [← hN]
    have h3 : l.length - 1 < l.length := by omega
    have h4 := (List.getElem?_eq_some_iff.1 (hin _ _ (List.getElem?_eq_getElem h3))).1
    omega
theorem Yl.field {i : Nat} {cs l : List V} {fs : Array Field} {f : Field} {fd : TypeDesc} {fz fb : Nat} {fr : Option Value} (ho : o.op = .field t x i) (ht : lk E.tab t = some ⟨td, tz, tb, tr⟩) (hd : td = .struct fs) (hf : fs[i]? = some f) (htf : lk E.tab f.type = some ⟨fd, fz, fb, fr⟩) (hp : Nat.blt 0 (bif aggD fd then fz else 1) = true)
    (hx : evO s x = some (.agg cs)) (hl : (cs.drop f.offset).take (bif aggD fd then fz else 1) = l) (hz : Nat.beq l.length (bif aggD fd then fz else 1) = true) : Yl ρ E k B s h o (mk (aggD fd) l) := fun U m a w r => by
  have h2 := r.opnd hx
  generalize hv : a.eval x = y at h2
  cases h2 with | @agg _ rs hln hh =>
  obtain ⟨h3, h4⟩ := part_ok hln hh hl hz
  refine ⟨_, h3, fun w' _ => ?_⟩
  have hu := und ht w'
  rw [hd] at hu
  have := run_part (P := E.P) (vs := rs) (off := f.offset) (isagg htf w') (szo htf w') (h4 (Nat.le_of_ble_eq_true hp))
  simp [execOp, ho, hv, Instr.field, hu, hf, asAgg, this]
theorem Yl.index {len : Nat} {cs l : List V} {e : TypeId} {ed : TypeDesc} {ez eb : Nat} {er : Option Value} {q : IntKind} {i : Int} (ho : o.op = .index t x y) (ht : lk E.tab t = some ⟨td, tz, tb, tr⟩) (hd : td = .array len e) (hte : lk E.tab e = some ⟨ed, ez, eb, er⟩) (hp : Nat.blt 0 (bif aggD ed then ez else 1) = true)
    (hx : evO s x = some (.agg cs)) (hy : evO s y = some (.d (.int q i))) (h0 : 0 ≤ i) (h1 : i < len) (hl : (cs.drop (i.toNat * ez)).take (bif aggD ed then ez else 1) = l) (hz : Nat.beq l.length (bif aggD ed then ez else 1) = true) : Yl ρ E k B s h o (mk (aggD ed) l) := fun U m a w r => by
  have h2 := r.opnd hx
  generalize hv : a.eval x = y at h2
  cases h2 with | @agg _ rs hln hh =>
  obtain ⟨h3, h4⟩ := part_ok hln hh hl hz
  refine ⟨_, h3, fun w' _ => ?_⟩
  have hu := und ht w'
  rw [hd] at hu
  have := run_part (P := E.P) (vs := rs) (off := i.toNat * ez) (isagg hte w') (szo hte w') (h4 (Nat.le_of_ble_eq_true hp))
  simp [execOp, ho, hv, Instr.index, hu, r.evInt hy, asIntOf, h0, h1, szo hte w', this]
end
end Go.Proofs.Ythkoinngmcpjgaa

/-
  The logic's rules for what makes memory and writes it: how states go on. Conditions: none.
-/
namespace Go.Proofs.Ythkoinngmcpjgaa
open Go.RowKit

def ext (m : Nat → Option Nat) (i : Nat) (x : Option Nat) : Nat → Option Nat := fun j => if j = i then x else m j
theorem ext_here (m : Nat → Option Nat) (i : Nat) (x : Option Nat) : ext m i x i = x := by simp [ext]
theorem ext_ne {m : Nat → Option Nat} {i j : Nat} {x : Option Nat} (h : j ≠ i) : ext m i x j = m j := by simp [ext, h]

theorem CR.mono {α : Type} {R R' : α → Value → Prop} {w w' : World} {x : Nat} {cs : List α} (h : CR R w x cs) (hx : w'.heap[x]? = w.heap[x]?) (hR : ∀ c ∈ cs, ∀ v, R c v → R' c v) : CR R' w' x cs := by
  obtain ⟨arr, t, h1, h2, h3⟩ := h
  exact ⟨arr, t, by rw [hx]; exact h1, h2, fun j c v hc hv => hR c (List.mem_of_getElem? hc) v (h3 j c v hc hv)⟩
theorem BR.mono {U U' : Nat → Prop} {m m' : Nat → Option Nat} {n n' : Nat} {w w' : World} (hU : ∀ x, U x → U' x) (hw : ∀ x, U x → w'.heap[x]? = w.heap[x]?) (hz : ∀ x z, BSize w x z → BSize w' x z) (hn : n ≤ n') (hm : ∀ i, i < n → m' i = m i)
    {mx : Option Nat} {blk : Blk} (hx : ∀ x, mx = some x → w'.heap[x]? = w.heap[x]?) (h : BR U m n w mx blk) : BR U' m' n' w' mx blk := by
  cases h with
  | cells h => exact .cells (h.mono (hx _ rfl) (fun c _ v hv => hv.mono hU hw hz hn hm))
  | dat h => exact .dat (h.mono (hx _ rfl) (fun c _ v hv => hv.mono hU hw))
  | rows hl h => exact .rows hl (h.mono (hx _ rfl) (fun c _ v hv => hv.mono hU hw))
  | rows0 => exact .rows0
  | cells0 => exact .cells0
  | dat0 => exact .dat0
  | fm ents clock h r => exact .fm ents clock (by rw [hx _ rfl]; exact h) (r.mono hU hw hz)

theorem push_old {w w' : World} {obj : Obj} (hh : w'.heap = w.heap.push obj) {x : Nat} (hx : x < w.heap.size) : w'.heap[x]? = w.heap[x]? := by
  rw [hh, Array.getElem?_push, if_neg (by omega)]
theorem push_new {w w' : World} {obj : Obj} (hh : w'.heap = w.heap.push obj) : w'.heap[w.heap.size]? = some obj := by
  rw [hh]; simp
theorem bsize_lt {w : World} {x z : Nat} (h : BSize w x z) : x < w.heap.size := by
  obtain ⟨_, _, _, h, _⟩ := h; exact (Array.getElem?_eq_some_iff.1 h).1
theorem bsize_push {w w' : World} {obj : Obj} (hh : w'.heap = w.heap.push obj) {x z : Nat} (h : BSize w x z) : BSize w' x z := by
  have := bsize_lt h
  obtain ⟨arr, t, f, h1, h2⟩ := h
  exact ⟨arr, t, f, by rw [push_old hh this]; exact h1, h2⟩

section
variable {E : Env} {k B : Nat} {s s' : Slots} {h h' : Hp} {Q Q' : Post} {U : Nat → Prop} {m : Nat → Option Nat} {a : Act} {w w' : World}

/-- A block more, at hand. -/
theorem SR.grow (r : SR k B U m s h a w) {obj : Obj} {blk : Blk} (hh : w'.heap = w.heap.push obj) (ho : w'.os = w.os) (ht : w'.tape = w.tape) (hout : w'.output = w.output)
    (hb : BR U (ext m h.n (some w.heap.size)) (h.n + 1) w' (some w.heap.size) blk) :
    SR k B U (ext m h.n (some w.heap.size)) s ⟨h.n + 1, (h.n, some blk) :: h.b⟩ a w' ∧ Stp h.n U m h.n h.b w U (ext m h.n (some w.heap.size)) (h.n + 1) ((h.n, some blk) :: h.b) w' := by
  have hme : ∀ i, i < h.n → ext m h.n (some w.heap.size) i = m i := fun i hi => ext_ne (by omega)
  have st : Stp h.n U m h.n h.b w U (ext m h.n (some w.heap.size)) (h.n + 1) ((h.n, some blk) :: h.b) w' :=
    { hn := by omega, hm := hme, hU := fun _ h => h, size := by rw [hh]; simp, os := ho, tape := ht, output := hout, keep := fun x hx _ => push_old hh hx
      own := fun x hx ⟨id, bk, h1, h2⟩ => by
        rw [lk_cons] at h1
        split at h1
        · rename_i e; subst e; rw [ext_here] at h2; injection h2 with h2; omega
        · have := (r.heap.live id bk h1).1
          rw [hme id this] at h2
          exact ⟨id, bk, h1, h2⟩
      lim := fun x _ hx => .inl hx, hz := fun x z hz => bsize_push hh hz }
  refine ⟨r.stp st ⟨fun id bk h1 => ?_, fun id bk x h1 h2 => ?_, fun id id' bk bk' x h1 h2 h3 h4 => ?_, fun x hx => Nat.lt_of_lt_of_le (r.heap.ulow x hx) st.size⟩, st⟩
  · rw [lk_cons] at h1
    split at h1
    · rename_i e; subst e; injection h1 with h1; injection h1 with h1; subst h1
      exact ⟨Nat.lt_succ_self _, by rw [ext_here]; exact hb⟩
    · obtain ⟨g1, g2⟩ := r.heap.live id bk h1
      refine ⟨Nat.lt_succ_of_lt g1, ?_⟩
      rw [hme id g1]
      exact g2.mono (fun _ h => h) (fun x hx => push_old hh (r.heap.ulow x hx)) (fun x z hz => bsize_push hh hz) (by show h.n ≤ h.n + 1; omega) hme (fun x hx => push_old hh (r.heap.ok id bk x h1 hx).2)
  · rw [lk_cons] at h1
    split at h1
    · rename_i e; subst e; rw [ext_here] at h2; injection h2 with h2; subst h2
      exact ⟨fun hx => absurd (r.heap.ulow _ hx) (by omega), by rw [hh]; simp⟩
    · have := (r.heap.live id bk h1).1
      rw [hme id this] at h2
      obtain ⟨g1, g2⟩ := r.heap.ok id bk x h1 h2
      exact ⟨g1, Nat.lt_of_lt_of_le g2 st.size⟩
  · rw [lk_cons] at h1 h2
    split at h1
    · rename_i e; subst e; rw [ext_here] at h3; injection h3 with h3; subst h3
      split at h2
      · rename_i e; exact e
      · have := (r.heap.live id' bk' h2).1
        rw [hme id' this] at h4
        exact absurd (r.heap.ok id' bk' _ h2 h4).2 (by omega)
    · have g := (r.heap.live id bk h1).1
      rw [hme id g] at h3
      split at h2
      · rename_i e; subst e; rw [ext_here] at h4; injection h4 with h4; subst h4
        exact absurd (r.heap.ok id bk _ h1 h3).2 (by omega)
      · have g' := (r.heap.live id' bk' h2).1
        rw [hme id' g'] at h4
        exact r.heap.inj id id' bk bk' x h1 h2 h3 h4
/-- A block more, that nobody will write. -/
theorem SR.growU (r : SR k B U m s h a w) {obj : Obj} (hh : w'.heap = w.heap.push obj) (ho : w'.os = w.os) (ht : w'.tape = w.tape) (hout : w'.output = w.output) :
    SR k B (fun x => U x ∨ x = w.heap.size) m s h a w' ∧ Stp h.n U m h.n h.b w (fun x => U x ∨ x = w.heap.size) m h.n h.b w' := by
  have st : Stp h.n U m h.n h.b w (fun x => U x ∨ x = w.heap.size) m h.n h.b w' :=
    { hn := Nat.le_refl _, hm := fun _ _ => rfl, hU := fun _ h => .inl h, size := by rw [hh]; simp, os := ho, tape := ht, output := hout, keep := fun x hx _ => push_old hh hx, own := fun _ _ h => h
      lim := fun x hx h => h.elim .inl (fun e => by omega), hz := fun x z hz => bsize_push hh hz }
  refine ⟨r.stp st ⟨fun id bk h1 => ?_, fun id bk x h1 h2 => ?_, r.heap.inj, fun x hx => ?_⟩, st⟩
  · obtain ⟨g1, g2⟩ := r.heap.live id bk h1
    exact ⟨g1, g2.mono (fun _ h => .inl h) (fun x hx => push_old hh (r.heap.ulow x hx)) (fun x z hz => bsize_push hh hz) (Nat.le_refl _) (fun _ _ => rfl) (fun x hx => push_old hh (r.heap.ok id bk x h1 hx).2)⟩
  · obtain ⟨g1, g2⟩ := r.heap.ok id bk x h1 h2
    exact ⟨fun hx => hx.elim g1 (fun e => by omega), Nat.lt_of_lt_of_le g2 st.size⟩
  · rcases hx with hx | hx
    · exact Nat.lt_of_lt_of_le (r.heap.ulow x hx) st.size
    · rw [hh]; simp; omega
theorem setRow_same {w : World} {g : Nat} {arr arr' : Array Value} {t : TypeId} {f : Nat × Nat} (hg : w.heap[g]? = some (.cells arr t f)) : (w.setRow g arr').heap[g]? = some (.cells arr' t f) := setRow_heap w g arr arr' t f hg
theorem bsize_set {w : World} {g : Nat} {arr arr' : Array Value} {t : TypeId} {f : Nat × Nat} (hg : w.heap[g]? = some (.cells arr t f)) (hs : arr'.size = arr.size) {x z : Nat} (h : BSize w x z) : BSize (w.setRow g arr') x z := by
  by_cases e : x = g
  · subst e
    obtain ⟨a1, t1, f1, h1, h2⟩ := h
    rw [hg] at h1; injection h1 with h1; injection h1 with e1 e2 e3; subst e1
    exact ⟨arr', t, f, setRow_same hg, by omega⟩
  · obtain ⟨a1, t1, f1, h1, h2⟩ := h
    exact ⟨a1, t1, f1, by rw [setRow_other w g x _ e]; exact h1, h2⟩
/-- A block at hand is written. -/
theorem SR.write (r : SR k B U m s h a w) {id x : Nat} {blk blk' : Blk} {arr arr' : Array Value} {t : TypeId} (hb : lk h.b id = some (some blk)) (hx : m id = some x) (hg : w.heap[x]? = some (.cells arr t (0, 0))) (hs : arr'.size = arr.size)
    (hbr : BR U m h.n (w.setRow x arr') (some x) blk') :
    SR k B U m s ⟨h.n, (id, some blk') :: h.b⟩ a (w.setRow x arr') ∧ Stp h.n U m h.n h.b w U m h.n ((id, some blk') :: h.b) (w.setRow x arr') := by
  have hU : ∀ y, U y → (w.setRow x arr').heap[y]? = w.heap[y]? := fun y hy => setRow_other w x y _ (by rintro rfl; exact (r.heap.ok id blk y hb hx).1 hy)
  have st : Stp h.n U m h.n h.b w U m h.n ((id, some blk') :: h.b) (w.setRow x arr') :=
    { hn := Nat.le_refl _, hm := fun _ _ => rfl, hU := fun _ h => h, size := by simp [World.setRow], os := rfl, tape := rfl, output := rfl
      keep := fun y hy hn => setRow_other w x y _ (by rintro rfl; exact hn ⟨id, blk, hb, hx⟩)
      own := fun y hy ⟨i, bk, h1, h2⟩ => by
        rw [lk_cons] at h1
        split at h1
        · rename_i e; subst e; exact ⟨_, blk, hb, h2⟩
        · exact ⟨i, bk, h1, h2⟩
      lim := fun x _ hx => .inl hx, hz := fun x z hz => bsize_set hg hs hz }
  refine ⟨r.stp st ⟨fun i bk h1 => ?_, fun i bk y h1 h2 => ?_, fun i i' bk bk' y h1 h2 h3 h4 => ?_, fun y hy => Nat.lt_of_lt_of_le (r.heap.ulow y hy) st.size⟩, st⟩
  · rw [lk_cons] at h1
    split at h1
    · rename_i e; subst e; injection h1 with h1; injection h1 with h1; subst h1
      exact ⟨(r.heap.live _ _ hb).1, by rw [hx]; exact hbr⟩
    · rename_i hne
      obtain ⟨g1, g2⟩ := r.heap.live i bk h1
      exact ⟨g1, g2.mono (fun _ h => h) hU (fun x z hz => bsize_set hg hs hz) (Nat.le_refl _) (fun _ _ => rfl) (fun y hy => setRow_other w x y _ (by rintro rfl; exact hne (r.heap.inj _ _ _ _ _ hb h1 hx hy)))⟩
  · rw [lk_cons] at h1
    split at h1
    · rename_i e; subst e
      obtain ⟨g1, g2⟩ := r.heap.ok _ blk y hb h2
      exact ⟨g1, Nat.lt_of_lt_of_le g2 st.size⟩
    · obtain ⟨g1, g2⟩ := r.heap.ok i bk y h1 h2
      exact ⟨g1, Nat.lt_of_lt_of_le g2 st.size⟩
  · rw [lk_cons] at h1 h2
    split at h1
    · rename_i e; subst e
      split at h2
      · rename_i e; exact e
      · exact r.heap.inj _ _ blk bk' y hb h2 h3 h4
    · split at h2
      · rename_i e; subst e; exact r.heap.inj _ _ bk blk y h1 hb h3 h4
      · exact r.heap.inj _ _ bk bk' y h1 h2 h3 h4

/-- The cells of a value. -/
def V.cs : V → List V
  | .agg cs => cs
  | v => [v]
def cellOk : V → Bool
  | .un => false
  | .nn _ _ => false
  | .agg _ => false
  | .tup _ => false
  | _ => true
theorem dr_cell {U : Nat → Prop} {w : World} {d : D} {r : Value} (h : DR U w d r) : r.oneCell' = true ∧ r.cells = #[r] := by
  induction h with
  | rows _ _ ih => exact ih
  | _ => exact ⟨rfl, rfl⟩
theorem cellOk_one {n : Nat} {v : V} {r : Value} (h : VR U m n w v r) (hv : cellOk v = true) : r.oneCell' = true ∧ r.cells = #[r] := by
  cases h with
  | d h => exact dr_cell h
  | sl => exact ⟨rfl, rfl⟩
  | sl0 => exact ⟨rfl, rfl⟩
  | ptr => exact ⟨rfl, rfl⟩
  | map => exact ⟨rfl, rfl⟩
  | el => exact ⟨rfl, rfl⟩
  | fn => exact ⟨rfl, rfl⟩
  | ifc => exact ⟨rfl, rfl⟩
  | un => cases hv
  | nn => cases hv
  | agg => cases hv
  | tup => cases hv
theorem all_d (l : List D) : (l.map V.d).all cellOk = true := by simp [List.all_eq_true, cellOk]
theorem cs_ok {n : Nat} {v : V} {r : Value} (h : VR U m n w v r) (hv : v.cs.all cellOk = true) : v.cs.length = r.cells.size ∧ (∀ (j : Nat) (c : V) (u : Value), v.cs[j]? = some c → r.cells[j]? = some u → VR U m n w c u) ∧ ∀ u ∈ r.cells.toList, u.oneCell' = true := by
  cases h with
  | agg hl hh =>
    refine ⟨hl, hh, fun u hu => ?_⟩
    obtain ⟨j, hj, rfl⟩ := List.getElem_of_mem hu
    rename_i cs vs
    have hj' : j < cs.length := by rw [hl]; simpa [Value.cells] using hj
    have h1 := List.all_eq_true.1 hv _ (List.getElem_mem hj')
    exact (cellOk_one (hh j _ _ (List.getElem?_eq_getElem hj') (by simp [Value.cells])) h1).1
  | un => simp [V.cs, cellOk] at hv
  | nn => simp [V.cs, cellOk] at hv
  | tup => simp [V.cs, cellOk] at hv
  | d h =>
    obtain ⟨h1, h2⟩ := cellOk_one (U := U) (m := m) (n := n) (w := w) (VR.d h) rfl
    rw [h2]
    exact ⟨rfl, fun j c u hc hu => by cases j with | zero => simp [V.cs] at hc hu; subst hc; subst hu; exact .d h | succ j => simp [V.cs] at hc, fun u hu => by simp at hu; subst hu; exact h1⟩
  | sl a1 a2 a3 a4 a5 a6 => exact ⟨rfl, fun j c u hc hu => by cases j with | zero => simp [V.cs, Value.cells] at hc hu; subst hc; subst hu; exact .sl a1 a2 a3 a4 a5 a6 | succ j => simp [V.cs] at hc, fun u hu => by simp [Value.cells] at hu; subst hu; rfl⟩
  | sl0 a1 a2 => exact ⟨rfl, fun j c u hc hu => by cases j with | zero => simp [V.cs, Value.cells] at hc hu; subst hc; subst hu; exact .sl0 a1 a2 | succ j => simp [V.cs] at hc, fun u hu => by simp [Value.cells] at hu; subst hu; rfl⟩
  | ptr a1 a2 => exact ⟨rfl, fun j c u hc hu => by cases j with | zero => simp [V.cs, Value.cells] at hc hu; subst hc; subst hu; exact .ptr a1 a2 | succ j => simp [V.cs] at hc, fun u hu => by simp [Value.cells] at hu; subst hu; rfl⟩
  | el a1 a2 => exact ⟨rfl, fun j c u hc hu => by cases j with | zero => simp [V.cs, Value.cells] at hc hu; subst hc; subst hu; exact .el a1 a2 | succ j => simp [V.cs] at hc, fun u hu => by simp [Value.cells] at hu; subst hu; rfl⟩
  | map a1 a2 => exact ⟨rfl, fun j c u hc hu => by cases j with | zero => simp [V.cs, Value.cells] at hc hu; subst hc; subst hu; exact .map a1 a2 | succ j => simp [V.cs] at hc, fun u hu => by simp [Value.cells] at hu; subst hu; rfl⟩
  | fn a1 a2 a3 a4 => exact ⟨rfl, fun j c u hc hu => by cases j with | zero => simp [V.cs, Value.cells] at hc hu; subst hc; subst hu; exact .fn a1 a2 a3 a4 | succ j => simp [V.cs] at hc, fun u hu => by simp [Value.cells] at hu; subst hu; rfl⟩
  | ifc a1 => exact ⟨rfl, fun j c u hc hu => by cases j with | zero => simp [V.cs, Value.cells] at hc hu; subst hc; subst hu; exact .ifc a1 | succ j => simp [V.cs] at hc, fun u hu => by simp [Value.cells] at hu; subst hu; rfl⟩

variable {ops : Array Oper} {rest : List Oper} {o : Oper} {v : V} {d : Nat} {t : TypeId} {td : TypeDesc} {tz tb : Nat} {tr : Option Value} {x y : Operand}
theorem upon_mono {P : Program} {o : Oper} {a : Act} {K K' : Act → World → Prop} {R R' : Exit → Act → World → Prop} (hK : ∀ a w, K a w → K' a w) (hR : ∀ e a w, R e a w → R' e a w) {x : Result Next} (hx : o.upon P a K R x) : o.upon P a K' R' x := by
  cases x with
  | ok n w1 =>
    cases n <;> simp only [Oper.upon] at hx ⊢ <;> first
      | exact hK _ _ hx
      | exact hx.elim
      | (refine Calls.mono hx fun e w2 he => ?_
         cases e with
         | returned u => exact hK _ _ he
         | panicked c => exact hR _ _ _ he
         | outgrown => obtain ⟨a0, w0, q⟩ := he; exact ⟨a0, w0, hR _ _ _ q⟩)
      | exact Rows.mono hx fun v w2 h2 => hK _ _ h2
  | halt y w1 =>
    cases y <;> simp only [Oper.upon] at hx ⊢ <;> first | exact hR _ _ _ hx | exact hx.elim
theorem wpList_mono {P : Program} {ops : Array Oper} {R R' : Exit → Act → World → Prop} (hR : ∀ e a w, R e a w → R' e a w) : ∀ (l : List Oper) (a : Act) (w : World), wpList P ops R l a w → wpList P ops R' l a w
  | [], a, w, h => hR _ _ _ h
  | o :: l, a, w, h => by
    unfold wpList at h ⊢
    split
    · rename_i hw
      rw [if_pos hw] at h
      rcases h with h | ⟨h1, a0, w0, q⟩
      · exact .inl (upon_mono (fun a w => wpList_mono hR l a w) hR h)
      · exact .inr ⟨h1, a0, w0, hR _ _ _ q⟩
    · rename_i hw
      rw [if_neg hw] at h
      exact wpList_mono hR l _ _ h
theorem RP.step {m' : Nat → Option Nat} {U' : Nat → Prop} (st : Stp h.n U m h.n h.b w U' m' h'.n h'.b w') (r : SR k B U m s h a w) {l : List Oper} {a' : Act} (t : wpList E.P ops (RP k B U' m' h' w' Q) l a' w') : wpList E.P ops (RP k B U m h w Q) l a' w' := by
  refine wpList_mono (fun e a2 w2 q => RP_trans (st.low r.base) q) l a' w' t
/-- An operation that goes on to another state. g: nothing that was there is written. -/
def Nxt (o : Oper) (a : Act) (nx : Next) (a' : Act) : Prop := (∃ r, nx = .value r ∧ a' = a.put o.dst r) ∨ (nx = .skip ∧ a' = a.put o.dst undef)
def Ac (E : Env) (k B : Nat) (g : Bool) (s : Slots) (h : Hp) (o : Oper) (s' : Slots) (h' : Hp) : Prop :=
  ∀ U m a w, SR k B U m s h a w → ∃ nx a' w' U' m', (execOp a.eval o).run E.P w = .ok nx w' ∧ Nxt o a nx a' ∧ SR k B U' m' s' h' a' w' ∧ Stp B U m h.n h.b w U' m' h'.n h'.b w' ∧ (g = true → Same0 w w')
theorem RP.step' {m' : Nat → Option Nat} {U' : Nat → Prop} (st : Stp B U m h.n h.b w U' m' h'.n h'.b w') {l : List Oper} {a' : Act} (t : wpList E.P ops (RP k B U' m' h' w' Q) l a' w') : wpList E.P ops (RP k B U m h w Q) l a' w' :=
  wpList_mono (fun e a2 w2 q => RP_trans st q) l a' w' t
theorem Nxt.upon {P : Program} {nx : Next} {a' : Act} (hn : Nxt o a nx a') (K : Act → World → Prop) (R : Exit → Act → World → Prop) {w' : World} (hK : K a' w') : o.upon P a K R (.ok nx w') := by
  rcases hn with ⟨r, rfl, rfl⟩ | ⟨rfl, rfl⟩ <;> exact hK
theorem TO.ac {g : Bool} (hg : o.guard = none) (y : Ac E k B g s h o s' h') (t : TO E k B ops rest s' h' Q) : TO E k B ops (o :: rest) s h Q := fun U m a w r => by
  obtain ⟨nx, a', w', U', m', h1, h2, h3, h4, _⟩ := y U m a w r
  refine wpList_plain hg fun K hK => ?_
  unfold Oper.wp
  rw [h1]
  exact h2.upon K _ (hK _ _ (RP.step' h4 (t _ _ _ _ h3)))

/-- A block that an operation makes, at hand. -/
theorem Ac.grow {l : List V} {c : Nat} {rv : Value → Value} (hd : o.dst = some d) (hk : Nat.blt d k = true) (hn : h.n = c) (u : V)
    (hrun : ∀ U m a w, SR k B U m s h a w → ∃ (arr : Array Value) (r : Value) (w1 w' : World), (execOp a.eval o).run E.P w = .ok (.value r) w' ∧ w'.heap = w.heap.push (.cells arr t) ∧ w'.os = w.os ∧ w'.tape = w.tape ∧ w'.output = w.output ∧
      (l.length ≤ arr.size ∧ ∀ (j : Nat) (c : V) (v : Value), l[j]? = some c → arr[j]? = some v → VR U m h.n w c v) ∧
      (∀ U' m' n', c < n' → m' c = some w.heap.size → BSize w' w.heap.size arr.size → VR U' m' n' w' u r)) :
    Ac E k B true s h o ((d, u) :: s) ⟨c + 1, (c, some (.cells l)) :: h.b⟩ := fun U m a w r => by
  subst hn
  obtain ⟨arr, rv, _, w', h1, h2, h3, h4, h5, ⟨h6, h7⟩, h8⟩ := hrun U m a w r
  obtain ⟨r1, st⟩ := r.grow (w' := w') (blk := .cells l) h2 h3 h4 h5
    (.cells ⟨arr, t, push_new h2, h6, fun j c u hc hu => (h7 j c u hc hu).mono (fun _ h => h) (fun x hx => push_old h2 (r.heap.ulow x hx)) (fun x z hz => bsize_push h2 hz) (by omega) (fun i hi => ext_ne (by omega))⟩)
  refine ⟨_, _, w', _, _, h1, .inl ⟨_, rfl, rfl⟩, ?_, st.low r.base, fun _ x hx => push_old h2 hx⟩
  rw [hd]
  exact r1.put hk (h8 _ _ _ (Nat.lt_succ_self _) (ext_here _ _ _) ⟨arr, t, _, push_new h2, rfl⟩)
/-- box: a variable with a value. -/
theorem Ac.box {c : Nat} (ho : o.op = .box t x) (hd : o.dst = some d) (hk : Nat.blt d k = true) (hx : evO s x = some v) (hv : v.cs.all cellOk = true) (hn : h.n = c) :
    Ac E k B true s h o ((d, .ptr c 0) :: s) ⟨c + 1, (c, some (.cells v.cs)) :: h.b⟩ :=
  Ac.grow (t := t) (rv := id) hd hk hn _ fun U m a w r => by
    obtain ⟨c1, c2, c3⟩ := cs_ok (r.opnd hx) hv
    exact ⟨(a.eval x).cells, _, w, w.alloc (.cells (a.eval x).cells t), by simp only [execOp, ho, Instr.box, newVar, newRow, newObj, Sem.run_bind, Sem.run_pure, Result.andThen_ok, Sem.run]; rfl, rfl, rfl, rfl, rfl,
      ⟨by omega, c2⟩, fun U' m' n' h1 h2 _ => .ptr h1 h2⟩
/-- alloc: a variable. -/
theorem Ac.alloc {c : Nat} {z : Value} {l : List V} (ho : o.op = .alloc t) (hd : o.dst = some d) (hk : Nat.blt d k = true) (ht : lk E.tab t = some ⟨td, tz, tb, tr⟩) (hz : tr = some z) (hl : absL z.cells.toList = some l) (hn : h.n = c) :
    Ac E k B true s h o ((d, .ptr c 0) :: s) ⟨c + 1, (c, some (.cells l)) :: h.b⟩ :=
  Ac.grow (t := t) (rv := id) hd hk hn _ fun U m a w r => by
    obtain ⟨c1, c2⟩ := absL_ok (U := U) (m := m) (n := h.n) (w := w) hl
    exact ⟨z.cells, _, w, w.alloc (.cells z.cells t), by simp only [execOp, ho, Instr.alloc, zer ht hz, newVar, newRow, newObj, Sem.run_bind, Sem.run_pure, Result.andThen_ok, Sem.run]; rfl, rfl, rfl, rfl, rfl,
      ⟨by simp [c1], fun j c v h1 h2 => c2 j c v h1 (by simpa using h2)⟩, fun U' m' n' h1 h2 _ => .ptr h1 h2⟩
end
end Go.Proofs.Ythkoinngmcpjgaa

/-
  The logic's rules for slices that are made and grown, and for stores. Conditions: none.
-/
namespace Go.Proofs.Ythkoinngmcpjgaa
open Go.RowKit

/-- What names a block is forgotten. -/
def dropV (id : Nat) (v : V) : V := bif v.has id then .un else v
def dropS (id : Nat) (s : Slots) : Slots := s.map fun p => (p.1, dropV id p.2)
def dropB (id : Nat) : Option Blk → Option Blk
  | some (.cells cs) => some (.cells (cs.map (dropV id)))
  | b => b
def dropH (id : Nat) (b : Heap) : Heap := b.map fun p => (p.1, dropB id p.2)
theorem dropV_has (id : Nat) (v : V) : (dropV id v).has id = false := by
  unfold dropV
  cases h : v.has id
  · exact h
  · rfl
theorem VR.drop {U : Nat → Prop} {m : Nat → Option Nat} {n : Nat} {w : World} {v : V} {r : Value} (h : VR U m n w v r) (id : Nat) : VR U m n w (dropV id v) r := by
  unfold dropV
  cases v.has id
  · exact h
  · exact .un _
theorem lk_map {α β : Type} (f : α → β) (l : List (Nat × α)) (i : Nat) : lk (l.map fun p => (p.1, f p.2)) i = (lk l i).map f := by
  induction l with
  | nil => rfl
  | cons p r ih =>
    obtain ⟨k, v⟩ := p
    simp only [List.map_cons, lk_cons]
    split
    · rfl
    · exact ih
theorem hasL_drop (id : Nat) (l : List V) : hasL id (l.map (dropV id)) = false := by
  induction l with
  | nil => rfl
  | cons v r ih => simp only [List.map_cons, hasL, dropV_has, ih]; rfl
theorem dropB_has (id : Nat) {b : Option Blk} {bk : Blk} (h : dropB id b = some bk) : bk.has id = false := by
  cases b with
  | none => cases h
  | some b =>
    cases b with
    | cells cs => simp only [dropB, Option.some.injEq] at h; subst h; exact hasL_drop id cs
    | dat cs => simp only [dropB, Option.some.injEq] at h; subst h; rfl
    | rows n e f => simp only [dropB, Option.some.injEq] at h; subst h; rfl
    | fm q g c has val => simp only [dropB, Option.some.injEq] at h; subst h; rfl
theorem BR.drop {U : Nat → Prop} {m : Nat → Option Nat} {n : Nat} {w : World} {mx : Option Nat} {bk bk' : Blk} (h : BR U m n w mx bk) (id : Nat) (hd : dropB id (some bk) = some bk') : BR U m n w mx bk' := by
  cases h with
  | cells h =>
    simp only [dropB, Option.some.injEq] at hd; subst hd
    obtain ⟨arr, t, h1, h2, h3⟩ := h
    refine .cells ⟨arr, t, h1, by simpa using h2, fun j c v hc hv => ?_⟩
    rw [List.getElem?_map] at hc
    obtain ⟨c0, hc0, rfl⟩ := Option.map_eq_some_iff.1 hc
    exact (h3 j c0 v hc0 hv).drop id
  | dat h => simp only [dropB, Option.some.injEq] at hd; subst hd; exact .dat h
  | rows hl h => simp only [dropB, Option.some.injEq] at hd; subst hd; exact .rows hl h
  | rows0 => simp only [dropB, Option.some.injEq] at hd; subst hd; exact .rows0
  | cells0 => simp only [dropB, Option.some.injEq] at hd; subst hd; exact .cells0
  | dat0 => simp only [dropB, Option.some.injEq] at hd; subst hd; exact .dat0
  | fm ents clock h r => simp only [dropB, Option.some.injEq] at hd; subst hd; exact .fm ents clock h r

section
variable {E : Env} {k B : Nat} {s s' : Slots} {h h' : Hp} {Q Q' : Post} {U : Nat → Prop} {m : Nat → Option Nat} {a : Act} {w w' : World}

theorem own_drop (id : Nat) (b : Heap) (x : Nat) : Own m (dropH id b) x ↔ Own m b x := by
  constructor
  · rintro ⟨i, bk, h1, h2⟩
    unfold dropH at h1
    rw [lk_map] at h1
    obtain ⟨b0, h3, h4⟩ := Option.map_eq_some_iff.1 h1
    cases b0 with
    | none => cases h4
    | some b0 => exact ⟨i, b0, h3, h2⟩
  · rintro ⟨i, bk, h1, h2⟩
    have : ∃ bk', dropB id (some bk) = some bk' := by cases bk <;> exact ⟨_, rfl⟩
    obtain ⟨bk', h3⟩ := this
    exact ⟨i, bk', by unfold dropH; rw [lk_map, h1]; exact congrArg some h3, h2⟩
theorem lk_dropH {id i : Nat} {b : Heap} {bk : Blk} (h : lk (dropH id b) i = some (some bk)) : ∃ b0, lk b i = some (some b0) ∧ dropB id (some b0) = some bk := by
  unfold dropH at h
  rw [lk_map] at h
  obtain ⟨b0, h3, h4⟩ := Option.map_eq_some_iff.1 h
  cases b0 with
  | none => cases h4
  | some b0 => exact ⟨b0, h3, h4⟩
/-- What names a block may be forgotten. -/
theorem SR.drop (r : SR k B U m s h a w) (id : Nat) : SR k B U m (dropS id s) ⟨h.n, dropH id h.b⟩ a w ∧ Stp B U m h.n h.b w U m h.n (dropH id h.b) w := by
  refine ⟨⟨fun t v hv => ?_, r.size, r.defers, ⟨fun i bk h1 => ?_, fun i bk x h1 h2 => ?_, fun i i' bk bk' x h1 h2 h3 h4 => ?_, r.heap.ulow⟩, r.base⟩, { Stp.refl B U m h.n h.b w with own := fun x _ hx => (own_drop id h.b x).1 hx }⟩
  · unfold dropS at hv
    rw [lk_map] at hv
    obtain ⟨v0, h1, rfl⟩ := Option.map_eq_some_iff.1 hv
    obtain ⟨x, h2, h3⟩ := r.slots t v0 h1
    exact ⟨x, h2, h3.drop id⟩
  · obtain ⟨b0, h3, h4⟩ := lk_dropH h1
    obtain ⟨h5, h6⟩ := r.heap.live i b0 h3
    exact ⟨h5, h6.drop id h4⟩
  · obtain ⟨b0, h3, _⟩ := lk_dropH h1
    exact r.heap.ok i b0 x h3 h2
  · obtain ⟨b0, h5, _⟩ := lk_dropH h1
    obtain ⟨b1, h6, _⟩ := lk_dropH h2
    exact r.heap.inj i i' b0 b1 x h5 h6 h3 h4
theorem BR.remap {n i : Nat} {m' : Nat → Option Nat} (hm : ∀ j, j ≠ i → m' j = m j) {mx : Option Nat} {bk : Blk} (h : BR U m n w mx bk) (hv : bk.has i = false) : BR U m' n w mx bk := by
  cases h with
  | cells h =>
    obtain ⟨arr, t, h1, h2, h3⟩ := h
    exact .cells ⟨arr, t, h1, h2, fun j c v hc hr => (h3 j c v hc hr).remap hm (hasL_get hv hc)⟩
  | dat h => exact .dat h
  | rows hl h => exact .rows hl h
  | rows0 => exact .rows0
  | cells0 => exact .cells0
  | dat0 => exact .dat0
  | fm ents clock h r => exact .fm ents clock h r
/-- A block at hand, which nothing else names, is made anew elsewhere. -/
theorem SR.moveAt {id : Nat} {blk' : Blk} (r : SR k B U m s h a w) (hB : B ≤ id) (hid : id < h.n) (hs : ∀ t v, lk s t = some v → v.has id = false) (hh : ∀ i bk, lk h.b i = some (some bk) → i ≠ id → bk.has id = false)
    {obj : Obj} (hw : w'.heap = w.heap.push obj) (ho : w'.os = w.os) (ht : w'.tape = w.tape) (hout : w'.output = w.output)
    (hbr : BR U (ext m id (some w.heap.size)) h.n w' (some w.heap.size) blk') :
    SR k B U (ext m id (some w.heap.size)) s ⟨h.n, (id, some blk') :: h.b⟩ a w' ∧ Stp B U m h.n h.b w U (ext m id (some w.heap.size)) h.n ((id, some blk') :: h.b) w' := by
  have hme : ∀ j, j ≠ id → ext m id (some w.heap.size) j = m j := fun j hj => ext_ne hj
  have hU : ∀ x, U x → w'.heap[x]? = w.heap[x]? := fun x hx => push_old hw (r.heap.ulow x hx)
  have hz : ∀ x z, BSize w x z → BSize w' x z := fun x z hz => bsize_push hw hz
  have st : Stp B U m h.n h.b w U (ext m id (some w.heap.size)) h.n ((id, some blk') :: h.b) w' :=
    { hn := Nat.le_refl _, hm := fun i hi => hme i (by omega), hU := fun _ h => h, size := by rw [hw]; simp, os := ho, tape := ht, output := hout, keep := fun x hx _ => push_old hw hx
      own := fun x hx ⟨i, bk, h1, h2⟩ => by
        rw [lk_cons] at h1
        split at h1
        · rename_i e; subst e; rw [ext_here] at h2; injection h2 with h2; omega
        · rename_i hne; rw [hme i (fun e => hne e.symm)] at h2; exact ⟨i, bk, h1, h2⟩
      lim := fun x _ hx => .inl hx, hz := hz }
  refine ⟨⟨fun t v hv => ?_, r.size, r.defers, ⟨fun i bk h1 => ?_, fun i bk x h1 h2 => ?_, fun i i' bk bk' x h1 h2 h3 h4 => ?_, fun x hx => Nat.lt_of_lt_of_le (r.heap.ulow x hx) st.size⟩, r.base⟩, st⟩
  · obtain ⟨x, h1, h2⟩ := r.slots t v hv
    exact ⟨x, h1, (h2.remap hme (hs t v hv)).mono (fun _ h => h) hU hz (Nat.le_refl _) (fun _ _ => rfl)⟩
  · rw [lk_cons] at h1
    split at h1
    · rename_i e; subst e; injection h1 with h1; injection h1 with h1; subst h1
      exact ⟨hid, by rw [ext_here]; exact hbr⟩
    · rename_i hne
      obtain ⟨g1, g2⟩ := r.heap.live i bk h1
      refine ⟨g1, ?_⟩
      rw [hme i (fun e => hne e.symm)]
      exact (g2.remap hme (hh i bk h1 (fun e => hne e.symm))).mono (fun _ h => h) hU hz (Nat.le_refl _) (fun _ _ => rfl) (fun x hx => push_old hw (r.heap.ok i bk x h1 hx).2)
  · rw [lk_cons] at h1
    split at h1
    · rename_i e; subst e; rw [ext_here] at h2; injection h2 with h2; subst h2
      exact ⟨fun hx => absurd (r.heap.ulow _ hx) (by omega), by rw [hw]; simp⟩
    · rename_i hne
      rw [hme i (fun e => hne e.symm)] at h2
      obtain ⟨g1, g2⟩ := r.heap.ok i bk x h1 h2
      exact ⟨g1, Nat.lt_of_lt_of_le g2 st.size⟩
  · rw [lk_cons] at h1 h2
    split at h1
    · rename_i e; subst e
      split at h2
      · rename_i e; exact e
      · rename_i hne
        rw [ext_here] at h3; injection h3 with h3; subst h3
        rw [hme i' (fun e => hne e.symm)] at h4
        exact absurd (r.heap.ok i' bk' _ h2 h4).2 (by omega)
    · rename_i hne
      rw [hme i (fun e => hne e.symm)] at h3
      split at h2
      · rename_i e; subst e; rw [ext_here] at h4; injection h4 with h4; subst h4
        exact absurd (r.heap.ok i bk _ h1 h3).2 (by omega)
      · rename_i hne'
        rw [hme i' (fun e => hne' e.symm)] at h4
        exact r.heap.inj i i' bk bk' x h1 h2 h3 h4

theorem SR.move {id : Nat} {blk blk' : Blk} (r : SR k B U m s h a w) (hB : B ≤ id) (hb : lk h.b id = some (some blk)) (hs : ∀ t v, lk s t = some v → v.has id = false) (hh : ∀ i bk, lk h.b i = some (some bk) → i ≠ id → bk.has id = false)
    {obj : Obj} (hw : w'.heap = w.heap.push obj) (ho : w'.os = w.os) (ht : w'.tape = w.tape) (hout : w'.output = w.output)
    (hbr : BR U (ext m id (some w.heap.size)) h.n w' (some w.heap.size) blk') :
    SR k B U (ext m id (some w.heap.size)) s ⟨h.n, (id, some blk') :: h.b⟩ a w' ∧ Stp B U m h.n h.b w U (ext m id (some w.heap.size)) h.n ((id, some blk') :: h.b) w' := r.moveAt hB (r.heap.live _ _ hb).1 hs hh hw ho ht hout hbr
/-- A variable, under a name that is free. -/
theorem Ac.allocAt {o : Oper} {t : TypeId} {td : TypeDesc} {tz tb : Nat} {tr : Option Value} {d c : Nat} {z : Value} {l : List V} (ho : o.op = .alloc t) (hd : o.dst = some d) (hk : Nat.blt d k = true) (ht : lk E.tab t = some ⟨td, tz, tb, tr⟩) (hz : tr = some z) (hl : absL z.cells.toList = some l)
    (hB : B ≤ c) (hid : c < h.n) (hs : ∀ t v, lk s t = some v → v.has c = false) (hh : ∀ i bk, lk h.b i = some (some bk) → i ≠ c → bk.has c = false) :
    Ac E k B true s h o ((d, .ptr c 0) :: s) ⟨h.n, (c, some (.cells l)) :: h.b⟩ := fun U m a w r => by
  obtain ⟨c1, c2⟩ := absL_ok (U := U) (m := ext m c (some w.heap.size)) (n := h.n) (w := w) hl
  have hw : (w.alloc (.cells z.cells t)).heap = w.heap.push (.cells z.cells t) := rfl
  have hlr : l.length ≤ z.cells.size := by simp [c1]
  obtain ⟨r1, st⟩ := r.moveAt (id := c) (blk' := .cells l) (w' := w.alloc (.cells z.cells t)) hB hid hs hh hw rfl rfl rfl
    (.cells ⟨z.cells, t, push_new hw, hlr, fun j c u hc hu => (c2 j c u hc (by simpa using hu)).mono (fun _ h => h) (fun x hx => push_old hw (r.heap.ulow x hx)) (fun x z hz => bsize_push hw hz) (Nat.le_refl _) (fun _ _ => rfl)⟩)
  refine ⟨_, _, w.alloc (.cells z.cells t), _, _, by simp only [execOp, ho, Instr.alloc, zer ht hz, newVar, newRow, newObj, Sem.run_bind, Sem.run_pure, Result.andThen_ok, Sem.run]; rfl, .inl ⟨_, rfl, rfl⟩, ?_, st, fun _ x hx => push_old hw hx⟩
  rw [hd]
  exact r1.put hk (.ptr hid (ext_here _ _ _))
/-- What is appended: so many elements of e cells, l the cells. -/
def Src (s : Slots) (h : Hp) (x : Operand) (e n : Nat) (l : List V) : Prop :=
  ∀ k B U m a w, SR k B U m s h a w → ∃ (A : Option Addr) (c : Nat) (news : List Value), a.eval x = .slice A n c ∧ news.length = n * e ∧ l.length = n * e ∧ (A = none → n = 0) ∧ (∀ ad, A = some ad → ∀ j u, news[j]? = some u → w.cell? (ad.add j) = some u) ∧
    (∀ u ∈ news, u.oneCell' = true) ∧ ∀ (j : Nat) (c : V) (u : Value), l[j]? = some c → news[j]? = some u → VR U m h.n w c u
theorem dr_one {d : D} {r : Value} (h : DR U w d r) : r.oneCell' = true := (dr_cell h).1
theorem Src.lst {x : Operand} {e n : Nat} {cs : List D} (hx : evO s x = some (.d (.lst n cs))) (hl : cs.length = n * e) (he : 0 < e) : Src s h x e n (cs.map .d) := fun k B U m a w r => by
  have h1 := r.evD hx
  generalize hv : a.eval x = v at h1
  cases h1 with | @lst _ _ A cap f hk hc ha hv2 =>
  refine ⟨A, cap, (List.range cs.length).map f, rfl, by simp [hl], by simpa using hl, fun hA => ?_, fun ad hA j u hu => ?_, fun u hu => ?_, fun j c u hc hu => ?_⟩
  · cases n with
    | zero => rfl
    | succ n =>
      have : 0 < cs.length := by rw [hl]; exact Nat.mul_pos (by omega) (by omega)
      obtain ⟨ad, h1, _⟩ := ha 0 this
      rw [hA] at h1; cases h1
  · rw [List.getElem?_map] at hu
    obtain ⟨i, hi, rfl⟩ := Option.map_eq_some_iff.1 hu
    obtain ⟨hj, h2⟩ := List.getElem?_eq_some_iff.1 hi
    simp at hj h2; subst h2
    obtain ⟨ad', h3, _, h4⟩ := ha j hj
    rw [hA] at h3; injection h3 with h3; subst h3; exact h4
  · obtain ⟨i, hi, rfl⟩ := List.mem_map.1 hu
    simp at hi
    exact dr_one (hv2 i _ (List.getElem?_eq_getElem hi))
  · rw [List.getElem?_map] at hc hu
    obtain ⟨c0, hc0, rfl⟩ := Option.map_eq_some_iff.1 hc
    obtain ⟨i, hi, rfl⟩ := Option.map_eq_some_iff.1 hu
    obtain ⟨hj, h2⟩ := List.getElem?_eq_some_iff.1 hi
    simp at h2; subst h2
    exact .d (hv2 j c0 hc0)
theorem Src.nil {x : Operand} {e : Nat} (hx : evO s x = some (.d .nsl)) : Src s h x e 0 [] := fun k B U m a w r => by
  have h1 := r.evD hx
  generalize hv : a.eval x = v at h1
  cases h1
  exact ⟨none, 0, [], rfl, by simp, by simp, fun _ => rfl, fun ad hA => (by cases hA), fun u hu => (by cases hu), fun j c u hc => by simp at hc⟩
/-- Out of a block at hand. -/
theorem Src.dat {x : Operand} {e id off n : Nat} {cs l : List D} (hx : evO s x = some (.sl e id off n)) (hb : lk h.b id = some (some (.dat cs))) (hl : (cs.drop off).take (n * e) = l) (hz : l.length = n * e) : Src s h x e n (l.map .d) := fun k B U m a w r => by
  have h1 := r.opnd hx
  generalize hv : a.eval x = v at h1
  cases h1 with
  | sl0 hid hm =>
    have : l = [] := List.eq_nil_of_length_eq_zero (by omega)
    subst this
    exact ⟨none, 0, [], rfl, by simp, by simp, fun _ => rfl, fun ad hA => (by cases hA), fun u hu => (by cases hu), fun j c u hc => by simp at hc⟩
  | @sl _ _ _ _ xx cap z hid hm hk hc hz2 hs =>
  obtain ⟨_, hbr⟩ := r.heap.live id _ hb
  rw [hm] at hbr
  cases hbr with | dat hbr =>
  obtain ⟨arr, t, g1, g2, g3⟩ := hbr
  have hin : ∀ j, j < n * e → ∃ c rv, l[j]? = some c ∧ arr[off + j]? = some rv ∧ DR U w c rv := fun j hj => by
    have e1 := List.getElem?_eq_getElem (show j < l.length by omega)
    have e2 := take_get hl e1
    have e3 : off + j < arr.size := Nat.lt_of_lt_of_le (List.getElem?_eq_some_iff.1 e2).1 g2
    exact ⟨_, _, e1, Array.getElem?_eq_getElem e3, g3 _ _ _ e2 (Array.getElem?_eq_getElem e3)⟩
  refine ⟨_, cap, (List.range (n * e)).map (fun j => arr.getD (off + j) undef), rfl, by simp, by simpa using hz, (fun hA => by cases hA), fun ad hA j u hu => ?_, fun u hu => ?_, fun j c u hc hu => ?_⟩
  · injection hA with hA; subst hA
    rw [List.getElem?_map] at hu
    obtain ⟨i, hi, rfl⟩ := Option.map_eq_some_iff.1 hu
    obtain ⟨hj, h2⟩ := List.getElem?_eq_some_iff.1 hi
    simp at hj h2; subst h2
    obtain ⟨c, rv, _, e2, _⟩ := hin j hj
    rw [Addr.add_lit, cell_of_arr g1, Array.getD_eq_getD_getElem?, e2]; rfl
  · obtain ⟨i, hi, rfl⟩ := List.mem_map.1 hu
    obtain ⟨c, rv, _, e2, e3⟩ := hin i (by simpa using hi)
    rw [Array.getD_eq_getD_getElem?, e2]
    exact dr_one e3
  · rw [List.getElem?_map] at hc hu
    obtain ⟨c0, hc0, rfl⟩ := Option.map_eq_some_iff.1 hc
    obtain ⟨i, hi, rfl⟩ := Option.map_eq_some_iff.1 hu
    obtain ⟨hj, h2⟩ := List.getElem?_eq_some_iff.1 hi
    simp at hj h2; subst h2
    obtain ⟨c, rv, e1, e2, e3⟩ := hin j hj
    rw [hc0] at e1; injection e1 with e1; subst e1
    rw [Array.getD_eq_getD_getElem?, e2]; exact .d e3
theorem Src.cells {x : Operand} {e id off n : Nat} {cs l : List V} (hx : evO s x = some (.sl e id off n)) (hb : lk h.b id = some (some (.cells cs))) (hl : (cs.drop off).take (n * e) = l) (hz : l.length = n * e) (hok : l.all cellOk = true) : Src s h x e n l := fun k B U m a w r => by
  have h1 := r.opnd hx
  generalize hv : a.eval x = v at h1
  cases h1 with
  | sl0 hid hm =>
    have : l = [] := List.eq_nil_of_length_eq_zero (by omega)
    subst this
    exact ⟨none, 0, [], rfl, by simp, by simp, fun _ => rfl, fun ad hA => (by cases hA), fun u hu => (by cases hu), fun j c u hc => by simp at hc⟩
  | @sl _ _ _ _ xx cap z hid hm hk hc hz2 hs =>
  obtain ⟨_, hbr⟩ := r.heap.live id _ hb
  rw [hm] at hbr
  cases hbr with | cells hbr =>
  obtain ⟨arr, t, g1, g2, g3⟩ := hbr
  have hin : ∀ j, j < n * e → ∃ c rv, l[j]? = some c ∧ arr[off + j]? = some rv ∧ VR U m h.n w c rv := fun j hj => by
    have e1 := List.getElem?_eq_getElem (show j < l.length by omega)
    have e2 := take_get hl e1
    have e3 : off + j < arr.size := Nat.lt_of_lt_of_le (List.getElem?_eq_some_iff.1 e2).1 g2
    exact ⟨_, _, e1, Array.getElem?_eq_getElem e3, g3 _ _ _ e2 (Array.getElem?_eq_getElem e3)⟩
  refine ⟨_, cap, (List.range (n * e)).map (fun j => arr.getD (off + j) undef), rfl, by simp, hz, (fun hA => by cases hA), fun ad hA j u hu => ?_, fun u hu => ?_, fun j c u hc hu => ?_⟩
  · injection hA with hA; subst hA
    rw [List.getElem?_map] at hu
    obtain ⟨i, hi, rfl⟩ := Option.map_eq_some_iff.1 hu
    obtain ⟨hj, h2⟩ := List.getElem?_eq_some_iff.1 hi
    simp at hj h2; subst h2
    obtain ⟨c, rv, _, e2, _⟩ := hin j hj
    rw [Addr.add_lit, cell_of_arr g1, Array.getD_eq_getD_getElem?, e2]; rfl
  · obtain ⟨i, hi, rfl⟩ := List.mem_map.1 hu
    obtain ⟨c, rv, e1, e2, e3⟩ := hin i (by simpa using hi)
    rw [Array.getD_eq_getD_getElem?, e2]
    exact (cellOk_one e3 (List.all_eq_true.1 hok c (List.mem_of_getElem? e1))).1
  · rw [List.getElem?_map] at hu
    obtain ⟨i, hi, rfl⟩ := Option.map_eq_some_iff.1 hu
    obtain ⟨hj, h2⟩ := List.getElem?_eq_some_iff.1 hi
    simp at hj h2; subst h2
    obtain ⟨c', rv, e1, e2, e3⟩ := hin j hj
    rw [hc] at e1; injection e1 with e1; subst e1
    rw [Array.getD_eq_getD_getElem?, e2]; exact e3
end
end Go.Proofs.Ythkoinngmcpjgaa

/-
  The logic's rule for append onto a row at hand. Conditions: none.
-/
namespace Go.Proofs.Ythkoinngmcpjgaa
open Go.RowKit

section
variable {E : Env} {k B : Nat} {s s' : Slots} {h h' : Hp} {Q Q' : Post} {U : Nat → Prop} {m : Nat → Option Nat} {a : Act} {w w' : World} {o : Oper} {v : V} {d : Nat} {t : TypeId} {td : TypeDesc} {tz tb : Nat} {tr : Option Value} {x y : Operand}

theorem run_room {P : Program} (w : World) (t ty e et : TypeId) (i : TypeInfo) (ht : P.underlying t = some (.slice e)) (hi : P.info? e = some i) (g sLen sCap : Nat) (cur : Array Value) (hg : w.heap[g]? = some (.cells cur et (0, 0)))
    (a : Addr) (n c : Nat) (news : List Value) (hl : news.length = n * i.size) (hnews : ∀ j u, news[j]? = some u → w.cell? (a.add j) = some u) (h1 : ∀ u ∈ news, u.oneCell' = true) (hroom : sLen + n ≤ sCap) (hfit : sLen * i.size + news.length ≤ cur.size) :
    (Builtin.append_ #[t, t] ty #[.slice (some ⟨g, 0, none⟩) sLen sCap, .slice (some a) n c]).run P w =
      .ok (.slice (some ⟨g, 0, none⟩) (sLen + n) sCap) (w.setRow g (cur.toList.take (sLen * i.size) ++ news ++ cur.toList.drop (sLen * i.size + news.length)).toArray) := by
  have hf := run_firstCells_some (P := P) w i.size n a n c news hl hnews
  have hst := run_storeCells_at (P := P) g (sLen * i.size) et news 0 cur w hg (by simpa using hfit) h1
  simp [Builtin.append_, run_underlying ht, sizeOf, typeInfo, hi, Builtin.lenOf, hroom, hf, Addr.add_lit, hst]
theorem run_none {P : Program} (w : World) (t ty e : TypeId) (i : TypeInfo) (ht : P.underlying t = some (.slice e)) (hi : P.info? e = some i) (b : Option Addr) (sLen sCap c : Nat) (hc : sLen ≤ sCap) :
    (Builtin.append_ #[t, t] ty #[.slice b sLen sCap, .slice none 0 c]).run P w = .ok (.slice b sLen sCap) w := by
  cases b <;> simp [Builtin.append_, run_underlying ht, sizeOf, typeInfo, hi, Builtin.lenOf, Builtin.firstCells, hc, storeCells]
theorem run_zero {P : Program} (w : World) (t ty e : TypeId) (i : TypeInfo) (ht : P.underlying t = some (.slice e)) (hi : P.info? e = some i) (a : Addr) (c : Nat) :
    (Builtin.append_ #[t, t] ty #[.slice none 0 0, .slice (some a) 0 c]).run P w = .ok (.slice none 0 0) w := by
  simp [Builtin.append_, run_underlying ht, sizeOf, typeInfo, hi, Builtin.lenOf, Builtin.firstCells, loadCells, loadCellsFrom]

/-- A block's cells. -/
inductive BlkIs : Blk → List V → Prop where
  | cells (l : List V) : BlkIs (.cells l) l
  | dat (l : List D) : BlkIs (.dat l) (l.map .d)
  | rows {n e : Nat} {f : Nat → List D} (hl : ∀ i, i < n → (f i).length = e) (h0 : flatN n f = [] → n = 0) : BlkIs (.rows n e f) ((flatN n f).map .d)
theorem BlkIs.br {n x : Nat} {blk : Blk} {l : List V} (h : BlkIs blk l) (c : CR (VR U m n w) w x l) : BR U m n w (some x) blk := by
  cases h with
  | cells => exact .cells c
  | dat l =>
    obtain ⟨arr, t, h1, h2, h3⟩ := c
    refine .dat ⟨arr, t, h1, by simpa using h2, fun j c v hc hv => ?_⟩
    have := h3 j (.d c) v (by rw [List.getElem?_map, hc]; rfl) hv
    cases this with | d h => exact h
  | rows hl h0 =>
    obtain ⟨arr, t, h1, h2, h3⟩ := c
    refine .rows hl ⟨arr, t, h1, by simpa using h2, fun j c v hc hv => ?_⟩
    have := h3 j (.d c) v (by rw [List.getElem?_map, hc]; rfl) hv
    cases this with | d h => exact h
theorem BlkIs.cr {n x : Nat} {blk : Blk} {l : List V} (h : BlkIs blk l) (c : BR U m n w (some x) blk) : CR (VR U m n w) w x l := by
  cases h with
  | cells => cases c with | cells c => exact c
  | dat l =>
    cases c with | dat c =>
    obtain ⟨arr, t, h1, h2, h3⟩ := c
    refine ⟨arr, t, h1, by simpa using h2, fun j c v hc hv => ?_⟩
    rw [List.getElem?_map] at hc
    obtain ⟨c0, hc0, rfl⟩ := Option.map_eq_some_iff.1 hc
    exact .d (h3 j c0 v hc0 hv)
  | rows hl h0 =>
    cases c with | rows _ c =>
    obtain ⟨arr, t, h1, h2, h3⟩ := c
    refine ⟨arr, t, h1, by simpa using h2, fun j c v hc hv => ?_⟩
    rw [List.getElem?_map] at hc
    obtain ⟨c0, hc0, rfl⟩ := Option.map_eq_some_iff.1 hc
    exact .d (h3 j c0 v hc0 hv)
theorem BlkIs.nil {n : Nat} {blk : Blk} {l : List V} (h : BlkIs blk l) (c : BR U m n w none blk) : l = [] := by
  cases h with
  | cells => cases c; rfl
  | dat l => cases c; rfl
  | rows hl h0 => cases c; rfl
theorem BlkIs.br0 {n : Nat} {blk : Blk} (h : BlkIs blk []) : BR U m n w none blk := by
  generalize hl : ([] : List V) = l at h
  cases h with
  | cells => subst hl; exact .cells0
  | dat l => have : l = [] := by simpa using hl.symm
             subst this; exact .dat0
  | rows _ h0 =>
    have := h0 (by simpa using hl.symm)
    subst this; exact .rows0
theorem BlkIs.lt {blk : Blk} {l : List V} (h : BlkIs blk l) {id : Nat} (hl : hasL id l = false) : dropB id (some blk) = some blk ∨ ∃ l', dropB id (some blk) = some (.cells l') ∧ l' = l := by
  cases h with
  | cells =>
    refine .inr ⟨_, rfl, ?_⟩
    induction l with
    | nil => rfl
    | cons c r ih =>
      simp only [hasL, Bool.or_eq_false_iff] at hl
      simp only [List.map_cons, ih hl.2]
      unfold dropV
      rw [hl.1]; rfl
  | dat => exact .inl rfl
  | rows => exact .inl rfl

/-- A block at hand is seen otherwise. -/
theorem SR.reblk {id : Nat} {blk blk' : Blk} (r : SR k B U m s h a w) (hb : lk h.b id = some (some blk)) (hbr : BR U m h.n w (m id) blk') :
    SR k B U m s ⟨h.n, (id, some blk') :: h.b⟩ a w ∧ Stp B U m h.n h.b w U m h.n ((id, some blk') :: h.b) w := by
  refine ⟨⟨r.slots, r.size, r.defers, ⟨fun i bk h1 => ?_, fun i bk y h1 h2 => ?_, fun i i' bk bk' y h1 h2 h3 h4 => ?_, r.heap.ulow⟩, r.base⟩, { Stp.refl B U m h.n h.b w with own := fun y _ ⟨i, bk, h1, h2⟩ => ?_ }⟩
  · rw [lk_cons] at h1
    split at h1
    · rename_i e; subst e; injection h1 with h1; injection h1 with h1; subst h1
      exact ⟨(r.heap.live _ _ hb).1, hbr⟩
    · exact r.heap.live i bk h1
  · rw [lk_cons] at h1
    split at h1
    · rename_i e; subst e; exact r.heap.ok _ blk y hb h2
    · exact r.heap.ok i bk y h1 h2
  · rw [lk_cons] at h1 h2
    split at h1
    · rename_i e; subst e
      split at h2
      · rename_i e; exact e
      · exact r.heap.inj _ _ blk bk' y hb h2 h3 h4
    · split at h2
      · rename_i e; subst e; exact r.heap.inj _ _ bk blk y h1 hb h3 h4
      · exact r.heap.inj _ _ bk bk' y h1 h2 h3 h4
  · rw [lk_cons] at h1
    split at h1
    · rename_i e; subst e; exact ⟨_, blk, hb, h2⟩
    · exact ⟨i, bk, h1, h2⟩
theorem get_append3 {l1 l2 l3 : List Value} {j : Nat} {u : Value} (h : (l1 ++ l2 ++ l3)[j]? = some u) : (j < l1.length ∧ l1[j]? = some u) ∨ (l1.length ≤ j ∧ j < l1.length + l2.length ∧ l2[j - l1.length]? = some u) ∨ l1.length + l2.length ≤ j := by
  by_cases h1 : j < l1.length
  · rw [List.append_assoc, List.getElem?_append_left h1] at h; exact .inl ⟨h1, h⟩
  · by_cases h2 : j < l1.length + l2.length
    · rw [List.append_assoc, List.getElem?_append_right (by omega), List.getElem?_append_left (by omega)] at h
      exact .inr (.inl ⟨by omega, h2, h⟩)
    · exact .inr (.inr (by omega))
theorem Ac.append {e : TypeId} {ed : TypeDesc} {ez eb : Nat} {er : Option Value} {id n nn : Nat} {z : Value} {blk blk' : Blk} {bc l : List V} (ho : o.op = .call { callee := .builtin .append, args := #[x, y], argTypes := #[t, t] }) (hd : o.dst = some d) (hk : Nat.blt d k = true) (ht : lk E.tab t = some ⟨td, tz, tb, tr⟩) (hty : td = .slice e) (hte : lk E.tab e = some ⟨ed, ez, eb, er⟩)
    (hz : er = some z) (hzs : z.cells.size = ez) (hx : evO s x = some (.sl ez id 0 n)) (hb : lk h.b id = some (some blk)) (hB : B ≤ id) (hbl : BlkIs blk bc) (hlen : bc.length = n * ez) (hsrc : Src s h y ez nn l) (hid : hasL id l = false) (hid2 : hasL id bc = false)
    (hbl' : BlkIs blk' (bc ++ l)) (hby : (n + nn) * eb ≤ 140737488355328) (hby0 : 0 < eb) :
    Ac E k B false s h o ((d, .sl ez id 0 (n + nn)) :: dropS id s) ⟨h.n, (id, some blk') :: dropH id h.b⟩ := fun U m a w r => by
  obtain ⟨A, c, news, hy, hn1, hn2, hA, hnews, hone, hrel⟩ := hsrc k B U m a w r
  have hxv := r.opnd hx
  generalize hxe : a.eval x = xv at hxv
  obtain ⟨hidn, hbr⟩ := r.heap.live id blk hb
  obtain ⟨_, i, hi, hsz, hbyt, hzer⟩ := E.ok e _ hte
  dsimp only at hsz hbyt hzer
  have hu := (E.ok t _ ht).1
  dsimp only at hu
  rw [hty] at hu
  rw [hz] at hzer
  have hsmall : n + nn ≤ 140737488355328 := Nat.le_trans (Nat.le_mul_of_pos_right _ hby0) hby
  -- what is forgotten first
  obtain ⟨r1, st1⟩ := r.drop id
  have hbd : ∃ bd, lk (dropH id h.b) id = some (some bd) ∧ BlkIs bd bc := by
    unfold dropH
    rw [lk_map, hb]
    rcases hbl.lt hid2 with h1 | ⟨l', h1, rfl⟩
    · exact ⟨blk, congrArg some h1, hbl⟩
    · exact ⟨_, congrArg some h1, .cells _⟩
  obtain ⟨bd, hbd1, hbd2⟩ := hbd
  have run : ∀ {v' : Value} {w1 : World}, (Builtin.append_ #[t, t] o.type #[xv, .slice A nn c]).run E.P w = .ok v' w1 → (execOp a.eval o).run E.P w = .ok (.value v') w1 := fun {v' w1} h1 => by
    simp only [execOp, ho, resolve, invoke, builtin, Sem.run_bind, Sem.run_pure, Result.andThen_ok, List.map_toArray, List.map_cons, List.map_nil, hxe, hy, h1]
  -- the world stays
  have stay : ∀ {v' : Value}, (Builtin.append_ #[t, t] o.type #[xv, .slice A nn c]).run E.P w = .ok v' w → VR U m h.n w (.sl ez id 0 (n + nn)) v' → BR U m h.n w (m id) blk' →
      ∃ nx a' w' U' m', (execOp a.eval o).run E.P w = .ok nx w' ∧ Nxt o a nx a' ∧ SR k B U' m' ((d, .sl ez id 0 (n + nn)) :: dropS id s) ⟨h.n, (id, some blk') :: dropH id h.b⟩ a' w' ∧ Stp B U m h.n h.b w U' m' h.n ((id, some blk') :: dropH id h.b) w' ∧ (false = true → Same0 w w') := fun {v'} h1 h2 h3 => by
    obtain ⟨r2, st2⟩ := r1.reblk (blk' := blk') hbd1 h3
    refine ⟨_, _, w, U, m, run h1, .inl ⟨_, rfl, rfl⟩, ?_, st1.trans st2, fun h => by cases h⟩
    rw [hd]; exact r2.put hk h2
  -- a new block
  have made : ∀ (olds : List Value) (cap : Nat), olds.length = n * ez → (∀ (j : Nat) (c : V) (u : Value), bc[j]? = some c → olds[j]? = some u → VR U m h.n w c u) →
      (Builtin.append_ #[t, t] o.type #[xv, .slice A nn c]).run E.P w = .ok (.slice (some ⟨w.heap.size, 0, none⟩) (n + nn) cap) (w.drew.alloc (.cells (olds.toArray ++ news.toArray ++ Builtin.zeroCells z.cells (cap - (n + nn))) e)) → n + nn ≤ cap → cap ≤ maxLen →
      ∃ nx a' w' U' m', (execOp a.eval o).run E.P w = .ok nx w' ∧ Nxt o a nx a' ∧ SR k B U' m' ((d, .sl ez id 0 (n + nn)) :: dropS id s) ⟨h.n, (id, some blk') :: dropH id h.b⟩ a' w' ∧ Stp B U m h.n h.b w U' m' h.n ((id, some blk') :: dropH id h.b) w' ∧ (false = true → Same0 w w') := fun olds cap ho1 ho2 h1 h2 h3 => by
    have hpush : (w.drew.alloc (.cells (olds.toArray ++ news.toArray ++ Builtin.zeroCells z.cells (cap - (n + nn))) e)).heap = w.heap.push (.cells (olds.toArray ++ news.toArray ++ Builtin.zeroCells z.cells (cap - (n + nn))) e) := rfl
    have hsize : (olds.toArray ++ news.toArray ++ Builtin.zeroCells z.cells (cap - (n + nn))).size = cap * ez := by
      simp only [Array.size_append, List.size_toArray, size_zeroCells, hzs, ho1, hn1, ← Nat.add_mul]
      congr 1; omega
    have hmv : ∀ (c : V) (u : Value), c.has id = false → VR U m h.n w c u → VR U (ext m id (some w.heap.size)) h.n (w.drew.alloc (.cells (olds.toArray ++ news.toArray ++ Builtin.zeroCells z.cells (cap - (n + nn))) e)) c u := fun c u h4 h5 =>
      (h5.remap (fun j hj => ext_ne hj) h4).mono (fun _ h => h) (fun x hx => push_old hpush (r.heap.ulow x hx)) (fun x z hz => bsize_push hpush hz) (Nat.le_refl _) (fun _ _ => rfl)
    obtain ⟨r2, st2⟩ := r1.move (w' := w.drew.alloc (.cells (olds.toArray ++ news.toArray ++ Builtin.zeroCells z.cells (cap - (n + nn))) e)) (blk' := blk') hB hbd1
      (fun t v hv => by
        unfold dropS at hv
        rw [lk_map] at hv
        obtain ⟨v0, _, rfl⟩ := Option.map_eq_some_iff.1 hv
        exact dropV_has id v0)
      (fun i bk hbk _ => by
        obtain ⟨b0, _, h5⟩ := lk_dropH hbk
        exact dropB_has id h5)
      hpush rfl rfl rfl
      (hbl'.br ⟨_, e, push_new hpush, by rw [hsize, List.length_append, hlen, hn2, ← Nat.add_mul]; exact Nat.mul_le_mul_right _ h2, fun j c u hc hu => by
        have hu' : (olds ++ news ++ (Builtin.zeroCells z.cells (cap - (n + nn))).toList)[j]? = some u := by
          rw [← Array.getElem?_toList] at hu; simpa only [Array.toList_append] using hu
        by_cases hj : j < bc.length
        · rw [List.getElem?_append_left hj] at hc
          rcases get_append3 hu' with ⟨_, g⟩ | ⟨g, _⟩ | g
          · exact hmv c u (hasL_get hid2 hc) (ho2 j c u hc g)
          · omega
          · omega
        · rw [List.getElem?_append_right (by omega)] at hc
          have hjl := (List.getElem?_eq_some_iff.1 hc).1
          rcases get_append3 hu' with ⟨g, _⟩ | ⟨g, _, g2⟩ | g
          · omega
          · rw [ho1, ← hlen] at g2; exact hmv c u (hasL_get hid hc) (hrel _ c u hc g2)
          · omega⟩)
    refine ⟨_, _, _, U, _, run h1, .inl ⟨_, rfl, rfl⟩, ?_, st1.trans st2, fun h => by cases h⟩
    rw [hd]
    exact r2.put hk (.sl (x := w.heap.size) (z := cap * ez) hidn (ext_here _ _ _) h2 h3 ⟨_, e, _, push_new hpush, hsize⟩ (by omega))
  cases hxv with
  | sl0 _ hm =>
    rw [hm] at hbr
    have hbc := hbl.nil hbr
    subst hbc
    cases A with
    | none =>
      have hn0 := hA rfl; subst hn0
      have : l = [] := List.eq_nil_of_length_eq_zero (by omega)
      subst this
      exact stay (run_none w t o.type e i hu hi none 0 0 c (Nat.le_refl _)) (.sl0 hidn hm) (by rw [hm]; exact hbl'.br0)
    | some ad =>
      by_cases hn0 : nn = 0
      · subst hn0
        have : l = [] := List.eq_nil_of_length_eq_zero (by omega)
        subst this
        exact stay (run_zero w t o.type e i hu hi ad c) (.sl0 hidn hm) (by rw [hm]; exact hbl'.br0)
      · have hr := run_append_nil (P := E.P) w t o.type e i z hu hi hzer ad nn c news (by rw [hsz]; exact hn1) (hnews ad rfl) (by omega) (by omega) (by rw [hbyt]; simp only [Nat.zero_add] at hby; omega)
        have := made [] (grownCap w nn 0 e) (by simp) (fun j c u hc => by simp at hc)
        simp only [Nat.zero_add] at this
        simp only [Nat.zero_add]
        refine this (by simpa using hr) (grownCap_ge w nn 0 e) (grownCap_le_maxLen w nn 0 e (by simp only [maxLen]; omega))
  | @sl _ _ _ _ xx cap zz _ hm hk1 hc1 hz1 hs1 =>
    rw [hm] at hbr
    obtain ⟨arr, et, g1, g2, g3⟩ := hbl.cr hbr
    cases A with
    | none =>
      have hn0 := hA rfl; subst hn0
      have : l = [] := List.eq_nil_of_length_eq_zero (by omega)
      subst this
      refine stay (run_none w t o.type e i hu hi _ n cap c hk1) (.sl hidn hm hk1 hc1 hz1 hs1) ?_
      rw [hm]
      exact hbl'.br ⟨arr, et, g1, by simpa using g2, fun j c v hc hv => g3 j c v (by simpa using hc) hv⟩
    | some ad =>
      have holen : bc.length ≤ arr.size := g2
      by_cases hroom : n + nn ≤ cap
      · have hzz : arr.size = zz := by
          obtain ⟨a1, t1, f1, q1, q2⟩ := hz1
          rw [g1] at q1; injection q1 with q1; injection q1 with q1; subst q1; exact q2
        have hfit : n * ez + news.length ≤ arr.size := by
          rw [hn1, ← Nat.add_mul, hzz]
          exact Nat.le_trans (Nat.mul_le_mul_right _ hroom) (by omega)
        have hr := run_room (P := E.P) w t o.type e et i hu hi xx n cap arr g1 ad nn c news (by rw [hsz]; exact hn1) (hnews ad rfl) hone hroom (by rw [hsz]; exact hfit)
        rw [hsz] at hr
        have hasz : (arr.toList.take (n * ez) ++ news ++ arr.toList.drop (n * ez + news.length)).toArray.size = arr.size := by
          simp only [List.size_toArray, List.length_append, List.length_take, List.length_drop, Array.length_toList]; omega
        have hU : ∀ y, U y → (w.setRow xx (arr.toList.take (n * ez) ++ news ++ arr.toList.drop (n * ez + news.length)).toArray).heap[y]? = w.heap[y]? := fun y hy => setRow_other w xx y _ (by rintro rfl; exact (r.heap.ok id blk y hb hm).1 hy)
        obtain ⟨r2, st2⟩ := r1.write (blk' := blk') hbd1 hm g1 hasz
          (hbl'.br ⟨_, et, setRow_same g1, by rw [hasz, List.length_append, hlen, hn2]; omega, fun j c u hc hu => by
            have hu' : (arr.toList.take (n * ez) ++ news ++ arr.toList.drop (n * ez + news.length))[j]? = some u := by simpa using hu
            have htl : (arr.toList.take (n * ez)).length = n * ez := by rw [List.length_take, Array.length_toList]; omega
            have hmo : ∀ c u, VR U m h.n w c u → VR U m h.n (w.setRow xx (arr.toList.take (n * ez) ++ news ++ arr.toList.drop (n * ez + news.length)).toArray) c u := fun c u h5 => h5.mono (fun _ h => h) hU (fun x z hz => bsize_set g1 hasz hz) (Nat.le_refl _) (fun _ _ => rfl)
            by_cases hj : j < bc.length
            · rw [List.getElem?_append_left hj] at hc
              rcases get_append3 hu' with ⟨_, g⟩ | ⟨g, _⟩ | g
              · rw [List.getElem?_take, if_pos (by omega)] at g
                exact hmo c u (g3 j c u hc (by simpa using g))
              · omega
              · omega
            · rw [List.getElem?_append_right (by omega)] at hc
              have hjl := (List.getElem?_eq_some_iff.1 hc).1
              rcases get_append3 hu' with ⟨g, _⟩ | ⟨g, _, gg⟩ | g
              · omega
              · rw [htl, ← hlen] at gg; exact hmo c u (hrel _ c u hc gg)
              · omega⟩)
        refine ⟨_, _, _, U, m, run hr, .inl ⟨_, rfl, rfl⟩, ?_, st1.trans (st2.low r1.base), fun h => by cases h⟩
        rw [hd]
        exact r2.put hk (.sl hidn hm hroom hc1 (bsize_set g1 hasz hz1) hs1)
      · have hlo : ((arr.toList).take (n * ez)).length = n * ez := by rw [List.length_take, Array.length_toList]; omega
        have hr := run_append_grow (P := E.P) w t o.type e i z hu hi hzer ⟨xx, 0, none⟩ n cap (arr.toList.take (n * ez)) (by rw [hsz]; exact hlo)
          (fun j v hv => by
            rw [Addr.add_lit, Nat.zero_add, cell_of_arr g1]
            rw [List.getElem?_take] at hv
            split at hv
            · simpa using hv
            · cases hv)
          ad nn c news (by rw [hsz]; exact hn1) (hnews ad rfl) (by omega) (by omega) (growslice_fits (by omega) (by rw [hbyt]; exact hby))
        refine made (arr.toList.take (n * ez)) (grownCap w (n + nn) cap e) hlo (fun j c u hc hu => ?_) hr (grownCap_ge w _ _ e) (grownCap_le_maxLen w _ _ e (by simp only [maxLen]; omega))
        rw [List.getElem?_take] at hu
        split at hu
        · exact g3 j c u hc (by simpa using hu)
        · cases hu
end
end Go.Proofs.Ythkoinngmcpjgaa

/-
  The logic's rules: literals of structs and slices, stores, rows that are begun, and rows that nobody writes any more. Conditions: none.
-/
namespace Go.Proofs.Ythkoinngmcpjgaa
open Go.RowKit

/-- Cells laid into others. -/
def lput (l : List V) (off : Nat) (new : List V) : List V := l.take off ++ new ++ l.drop (off + new.length)
theorem lput_len {l new : List V} {off : Nat} (h : off + new.length ≤ l.length) : (lput l off new).length = l.length := by
  simp only [lput, List.length_append, List.length_take, List.length_drop]; omega
/-- A row of values, cell by cell. -/
structure PW (R : V → Value → Prop) (l : List V) (vs : List Value) : Prop where
  len : l.length = vs.length
  at_ : ∀ (j : Nat) (c : V) (v : Value), l[j]? = some c → vs[j]? = some v → R c v
theorem get_append3' {α : Type} {l1 l2 l3 : List α} {j : Nat} {u : α} (h : (l1 ++ l2 ++ l3)[j]? = some u) : (j < l1.length ∧ l1[j]? = some u) ∨ (l1.length ≤ j ∧ j < l1.length + l2.length ∧ l2[j - l1.length]? = some u) ∨ (l1.length + l2.length ≤ j ∧ l3[j - (l1.length + l2.length)]? = some u) := by
  by_cases h1 : j < l1.length
  · rw [List.append_assoc, List.getElem?_append_left h1] at h; exact .inl ⟨h1, h⟩
  · by_cases h2 : j < l1.length + l2.length
    · rw [List.append_assoc, List.getElem?_append_right (by omega), List.getElem?_append_left (by omega)] at h
      exact .inr (.inl ⟨by omega, h2, h⟩)
    · rw [List.append_assoc, List.getElem?_append_right (by omega), List.getElem?_append_right (by omega)] at h
      exact .inr (.inr ⟨by omega, by rwa [show j - l1.length - l2.length = j - (l1.length + l2.length) by omega] at h⟩)
theorem PW.put {R : V → Value → Prop} {l new : List V} {vs nw : List Value} {off : Nat} (h : PW R l vs) (hn : PW R new nw) (ho : off + new.length ≤ l.length) : PW R (lput l off new) (vs.take off ++ nw ++ vs.drop (off + nw.length)) := by
  have e1 := h.len; have e2 := hn.len
  refine ⟨by rw [lput_len ho]; simp only [List.length_append, List.length_take, List.length_drop]; omega, fun j c v hc hv => ?_⟩
  have t1 : (l.take off).length = off := by rw [List.length_take]; omega
  have t2 : (vs.take off).length = off := by rw [List.length_take]; omega
  rcases get_append3' hc with ⟨a1, a2⟩ | ⟨a1, a2, a3⟩ | ⟨a1, a2⟩ <;> rcases get_append3' hv with ⟨b1, b2⟩ | ⟨b1, b2, b3⟩ | ⟨b1, b2⟩ <;> try omega
  · rw [List.getElem?_take, if_pos (by omega)] at a2 b2; exact h.at_ j c v a2 b2
  · rw [t1] at a3; rw [t2] at b3; exact hn.at_ _ c v a3 b3
  · rw [t1, List.getElem?_drop] at a2
    rw [t2, List.getElem?_drop] at b2
    refine h.at_ j c v ?_ ?_
    · rwa [show off + new.length + (j - (off + new.length)) = j by omega] at a2
    · rwa [show off + nw.length + (j - (off + nw.length)) = j by omega] at b2
theorem foldl_put : ∀ (nw : List Value) (off i : Nat) (cells : Array Value), off + i + nw.length ≤ cells.size →
    ((nw.zipIdx i).foldl (fun cs (c, j) => cs.setIfInBounds (off + j) c) cells).toList = cells.toList.take (off + i) ++ nw ++ cells.toList.drop (off + i + nw.length)
  | [], off, i, cells, _ => by simp
  | v :: r, off, i, cells, h => by
    simp only [List.length_cons] at h
    rw [List.zipIdx_cons, List.foldl_cons, foldl_put r off (i + 1) _ (by simp; omega)]
    have e := list_seg_step cells.toList (off + i) v r (by simp; omega)
    simpa [Array.toList_setIfInBounds, Nat.add_assoc] using e

/-- The parts of a literal. -/
def vfill (place : Nat → Option (Nat × Nat)) (s : Slots) : List V → List (Nat × Operand) → Option (List V)
  | l, [] => some l
  | l, (i, x) :: rest =>
    match place i, evO s x with
    | some p, some v => bif Nat.beq v.cs.length p.2 && Nat.ble (p.1 + p.2) l.length && v.cs.all cellOk then vfill place s (lput l p.1 v.cs) rest else none
    | _, _ => none

section
variable {E : Env} {k B : Nat} {s s' : Slots} {h h' : Hp} {Q Q' : Post} {U : Nat → Prop} {m : Nat → Option Nat} {a : Act} {w w' : World} {o : Oper} {v : V} {d : Nat} {t : TypeId} {td : TypeDesc} {tz tb : Nat} {tr : Option Value} {x y : Operand} {ρ : Bool}

theorem cs_pw {n : Nat} {v : V} {r : Value} (h : VR U m n w v r) (hv : v.cs.all cellOk = true) : PW (VR U m n w) v.cs r.cells.toList := by
  obtain ⟨h1, h2, _⟩ := cs_ok h hv
  exact ⟨by simpa using h1, fun j c u hc hu => h2 j c u hc (by simpa using hu)⟩
theorem vfill_ok (r : SR k B U m s h a w) {place : Nat → Option (Nat × Nat)} : ∀ (parts : List (Nat × Operand)) (l l' : List V) (cells : Array Value), vfill place s l parts = some l' → PW (VR U m h.n w) l cells.toList →
    ∃ cells', Instr.fill place cells (parts.map fun p => (p.1, a.eval p.2)) = some cells' ∧ PW (VR U m h.n w) l' cells'.toList
  | [], l, l', cells, hf, hp => by
    simp only [vfill, Option.some.injEq] at hf; subst hf
    exact ⟨cells, rfl, hp⟩
  | (i, x) :: rest, l, l', cells, hf, hp => by
    unfold vfill at hf
    split at hf
    · rename_i p v hpl hv
      cases hc : (Nat.beq v.cs.length p.2 && Nat.ble (p.1 + p.2) l.length && v.cs.all cellOk)
      · rw [hc] at hf; cases hf
      · rw [hc] at hf
        simp only [Bool.and_eq_true] at hc
        obtain ⟨⟨c1, c2⟩, c3⟩ := hc
        have c1' := Nat.eq_of_beq_eq_true c1
        have c2' := Nat.le_of_ble_eq_true c2
        have hpw := cs_pw (r.opnd hv) c3
        have hsz : (a.eval x).cells.size = p.2 := by have := hpw.len; simp only [Array.length_toList] at this; omega
        have hle := hp.len
        simp only [Array.length_toList] at hle
        have hp2 := hp.put (off := p.1) hpw (by omega)
        have hfold := foldl_put (a.eval x).cells.toList p.1 0 cells (by simp only [Array.length_toList]; omega)
        simp only [Nat.add_zero] at hfold
        have hfold' : ((a.eval x).cells.zipIdx.foldl (fun cs (c, j) => cs.setIfInBounds (p.1 + j) c) cells).toList = cells.toList.take p.1 ++ (a.eval x).cells.toList ++ cells.toList.drop (p.1 + (a.eval x).cells.toList.length) := by
          rw [← Array.foldl_toList, Array.toList_zipIdx]; exact hfold
        rw [← hfold'] at hp2
        obtain ⟨cells', h1, h2⟩ := vfill_ok r rest _ l' _ hf hp2
        refine ⟨cells', ?_, h2⟩
        simp only [List.map_cons, Instr.fill, hpl]
        rw [if_neg (by simp; omega)]
        exact h1
    · cases hf
/-- Where the fields lie. -/
def places (tab : List (Nat × Ty)) : List Field → Option (List (Nat × Nat))
  | [] => some []
  | f :: r => match lk tab f.type, places tab r with
    | some ty, some l => some ((f.offset, ty.size) :: l)
    | _, _ => none
theorem run_places : ∀ (fs : List Field) (l : List (Nat × Nat)) (w : World), places E.tab fs = some l → (fs.mapM fun f => do pure (f.offset, ← sizeOf f.type) : Sem (List (Nat × Nat))).run E.P w = .ok l w
  | [], l, w, h => by simp only [places, Option.some.injEq] at h; subst h; rfl
  | f :: r, l, w, h => by
    simp only [places] at h
    split at h
    · rename_i ty l' h1 h2
      injection h with h; subst h
      have ih := run_places r l' w h2
      rw [List.mapM_cons]
      simp only [Sem.run_bind, szo h1, Result.andThen_ok, Sem.run_pure, ih]
    · cases h
theorem zero_pw {z : Value} {zl : List V} (hl : absL z.cells.toList = some zl) (n : Nat) : PW (VR U m n w) zl z.cells.toList := by
  obtain ⟨h1, h2⟩ := absL_ok (U := U) (m := m) (n := n) (w := w) hl
  exact ⟨h1, h2⟩
theorem Yl.buildS {fs : Array Field} {parts : Array (Nat × Operand)} {z : Value} {zl l : List V} {pl : List (Nat × Nat)} (ho : o.op = .build t parts) (ht : lk E.tab t = some ⟨td, tz, tb, tr⟩) (hd : td = .struct fs) (hz : tr = some z) (hzl : absL z.cells.toList = some zl)
    (hpl : places E.tab fs.toList = some pl) (hl : vfill (fun i => pl[i]?) s zl parts.toList = some l) : Yl ρ E k B s h o (.agg l) := fun U m a w r => by
  obtain ⟨cells', h1, h2⟩ := vfill_ok r (place := fun i => pl[i]?) parts.toList zl l z.cells hl (zero_pw hzl h.n)
  refine ⟨.agg cells', .agg (by simpa using h2.len) (fun j c v hc hv => h2.at_ j c v hc (by simpa using hv)), fun w' _ => ?_⟩
  have hu := und ht w'
  rw [hd] at hu
  have hp : (fs.mapM fun f => do pure (f.offset, ← sizeOf f.type) : Sem (Array (Nat × Nat))).run E.P w' = .ok pl.toArray w' := by
    rw [Array.mapM_eq_mapM_toList]
    have := run_places fs.toList pl w' hpl
    rw [map_eq_pure_bind]
    simp only [Sem.run_bind, this, Result.andThen_ok, Sem.run_pure]
  have hf : Instr.fill (fun i => pl[i]?) z.cells (parts.map fun p => (p.1, a.eval p.2)).toList = some cells' := by simpa using h1
  have hf' : Instr.fill (fun x => pl.toArray[x]?) z.cells (parts.map fun p => (p.1, a.eval p.2)).toList = some cells' := by simpa using hf
  simp only [execOp, ho, Instr.build, Sem.run_bind, zer ht hz, hu, Result.andThen_ok, hp, hf', Sem.run_pure]
theorem Yl.buildA {len : Nat} {e : TypeId} {ed : TypeDesc} {ez eb : Nat} {er : Option Value} {parts : Array (Nat × Operand)} {z : Value} {zl l : List V} (ho : o.op = .build t parts) (ht : lk E.tab t = some ⟨td, tz, tb, tr⟩) (hd : td = .array len e) (hte : lk E.tab e = some ⟨ed, ez, eb, er⟩) (hz : tr = some z) (hzl : absL z.cells.toList = some zl)
    (hl : vfill (fun i => some (i * ez, ez)) s zl parts.toList = some l) : Yl ρ E k B s h o (.agg l) := fun U m a w r => by
  obtain ⟨cells', h1, h2⟩ := vfill_ok r (place := fun i => some (i * ez, ez)) parts.toList zl l z.cells hl (zero_pw hzl h.n)
  refine ⟨.agg cells', .agg (by simpa using h2.len) (fun j c v hc hv => h2.at_ j c v hc (by simpa using hv)), fun w' _ => ?_⟩
  have hu := und ht w'
  rw [hd] at hu
  have hf : Instr.fill (fun i => some (i * ez, ez)) z.cells (parts.map fun p => (p.1, a.eval p.2)).toList = some cells' := by simpa using h1
  simp only [execOp, ho, Instr.build, Sem.run_bind, zer ht hz, hu, Result.andThen_ok, szo hte w', hf, Sem.run_pure]
end
end Go.Proofs.Ythkoinngmcpjgaa

/-
  The logic's rules: literals of slices, stores, parts of slices, rows that are begun, rows that nobody writes any more. Conditions: none.
-/
namespace Go.Proofs.Ythkoinngmcpjgaa
open Go.RowKit

def unD : List V → Option (List D)
  | [] => some []
  | .d x :: r => (unD r).map (x :: ·)
  | _ :: _ => none
theorem unD_ok : ∀ {l : List V} {ds : List D}, unD l = some ds → l = ds.map .d
  | [], ds, h => by simp only [unD, Option.some.injEq] at h; subst h; rfl
  | .d x :: r, ds, h => by
    simp only [unD] at h
    obtain ⟨ds', h1, rfl⟩ := Option.map_eq_some_iff.1 h
    rw [List.map_cons, ← unD_ok h1]
  | .un :: r, ds, h => by cases h
  | .nn _ _ :: r, ds, h => by cases h
  | .sl .. :: r, ds, h => by cases h
  | .ptr .. :: r, ds, h => by cases h
  | .el .. :: r, ds, h => by cases h
  | .map _ :: r, ds, h => by cases h
  | .fn .. :: r, ds, h => by cases h
  | .ifc .. :: r, ds, h => by cases h
  | .agg _ :: r, ds, h => by cases h
  | .tup _ :: r, ds, h => by cases h
theorem unD_map (ds : List D) : unD (ds.map .d) = some ds := by
  induction ds with
  | nil => rfl
  | cons x r ih => simp only [List.map_cons, unD, ih]; rfl
def dput (l : List D) (off : Nat) (new : List D) : List D := l.take off ++ new ++ l.drop (off + new.length)
theorem lput_map (l new : List D) (off : Nat) : lput (l.map .d) off (new.map .d) = (dput l off new).map .d := by
  simp [lput, dput, List.map_take, List.map_drop]

/-- Zero cells. -/
def vzero (n : Nat) (zl : List V) : List V := (List.range n).map fun i => zl.getD (i % zl.length) .un

section
variable {E : Env} {k B : Nat} {s s' : Slots} {h h' : Hp} {Q Q' : Post} {U : Nat → Prop} {m : Nat → Option Nat} {a : Act} {w w' : World} {o : Oper} {v : V} {d : Nat} {t : TypeId} {td : TypeDesc} {tz tb : Nat} {tr : Option Value} {x y : Operand}

theorem zeros_pw {z : Array Value} {zl : List V} {n q : Nat} (hl : absL z.toList = some zl) (hp : n = 0 ∨ 0 < z.size) : PW (VR U m q w) (vzero n zl) ((Array.range n).map (z[· % z.size]!)).toList := by
  obtain ⟨h1, h2⟩ := absL_ok (U := U) (m := m) (n := q) (w := w) hl
  simp only [Array.length_toList] at h1
  refine ⟨by simp [vzero], fun j c v hc hv => ?_⟩
  simp only [vzero, List.getElem?_map] at hc
  obtain ⟨i, hi, rfl⟩ := Option.map_eq_some_iff.1 hc
  obtain ⟨hj, h3⟩ := List.getElem?_eq_some_iff.1 hi
  simp at hj h3; subst h3
  have hp' : 0 < z.size := hp.resolve_left (by omega)
  have hlt : j % z.size < z.size := Nat.mod_lt _ hp'
  simp only [Array.toList_map, List.getElem?_map, Array.toList_range] at hv
  rw [List.getElem?_range hj] at hv
  simp only [Option.map_some, Option.some.injEq] at hv
  subst hv
  rw [getElem!_pos z _ hlt]
  refine h2 (j % z.size) _ _ ?_ (by simp [hlt])
  rw [List.getD_eq_getElem?_getD, h1, List.getElem?_eq_getElem (by omega)]; rfl
theorem run_buildSlice {P : Program} {t e : TypeId} {len sz : Nat} {z : Value} {parts : Array (Nat × Value)} {cells : Array Value} (w : World) (hu : (underlying t).run P w = .ok (.slice e) w) (hs : (sizeOf e).run P w = .ok sz w) (hz : (zeroValue e).run P w = .ok z w) (hb : len * sz ≤ 2 ^ 24)
    (hf : Instr.fill (fun i => some (i * sz, sz)) ((Array.range (len * sz)).map ((if len * sz = 0 then #[] else z.cells)[· % (if len * sz = 0 then #[] else z.cells).size]!)) parts.toList = some cells) :
    (Instr.buildSlice t len parts).run P w = .ok (.slice (some ⟨w.heap.size, 0, none⟩) len len) (w.alloc (.cells cells e)) := by
  have hb' : ¬ (len * sz > 2 ^ 24) := by omega
  unfold Instr.buildSlice
  simp only [Sem.run_bind, hu, Result.andThen_ok, hs, if_neg hb', Sem.run_pure]
  by_cases h0 : len * sz = 0
  · rw [if_pos h0] at hf
    simp only [h0, if_true, Sem.run_pure, Result.andThen_ok] at hf ⊢
    simp only [hf, newRow, newObj, Sem.run_bind, Sem.run, Result.andThen_ok, Sem.run_pure]; rfl
  · rw [if_neg h0] at hf
    simp only [h0, if_false, Sem.run_bind, hz, Sem.run_pure, Result.andThen_ok, hf, newRow, newObj, Sem.run]; rfl
/-- What a literal of a slice comes to. -/
theorem slice_run {e : TypeId} {ed : TypeDesc} {ez eb : Nat} {er : Option Value} {len : Nat} {parts : Array (Nat × Operand)} {z : Value} {zl l : List V} (r : SR k B U m s h a w) (ho : o.op = .buildSlice t len parts) (ht : lk E.tab t = some ⟨td, tz, tb, tr⟩) (hd : td = .slice e) (hte : lk E.tab e = some ⟨ed, ez, eb, er⟩) (hz : er = some z) (hzl : absL z.cells.toList = some zl) (hzp : Nat.blt 0 z.cells.size = true)
    (hb : Nat.ble (len * ez) 16777216 = true) (hl : vfill (fun i => some (i * ez, ez)) s (vzero (len * ez) zl) parts.toList = some l) :
    ∃ cells : Array Value, (execOp a.eval o).run E.P w = .ok (.value (.slice (some ⟨w.heap.size, 0, none⟩) len len)) (w.alloc (.cells cells e)) ∧ PW (VR U m h.n w) l cells.toList := by
  have hu := und ht w
  rw [hd] at hu
  have hp : PW (VR U m h.n w) (vzero (len * ez) zl) ((Array.range (len * ez)).map ((if len * ez = 0 then #[] else z.cells)[· % (if len * ez = 0 then #[] else z.cells).size]!)).toList := by
    by_cases h0 : len * ez = 0
    · rw [h0]; exact ⟨by simp [vzero], fun j c v hc => by simp [vzero] at hc⟩
    · simp only [h0, if_false]
      exact zeros_pw hzl (.inr (Nat.le_of_ble_eq_true hzp))
  obtain ⟨cells', h1, h2⟩ := vfill_ok r (place := fun i => some (i * ez, ez)) parts.toList _ l _ hl hp
  have hr := run_buildSlice (P := E.P) (parts := parts.map fun p => (p.1, a.eval p.2)) (cells := cells') w hu (szo hte w) (zer hte hz w) (Nat.le_of_ble_eq_true hb) (by simpa using h1)
  exact ⟨cells', by simp only [execOp, ho, Sem.run_bind, hr, Result.andThen_ok, Sem.run_pure], h2⟩
theorem Ac.slice {c : Nat} {e : TypeId} {ed : TypeDesc} {ez eb : Nat} {er : Option Value} {len : Nat} {parts : Array (Nat × Operand)} {z : Value} {zl l : List V} (ho : o.op = .buildSlice t len parts) (hd : o.dst = some d) (hk : Nat.blt d k = true) (ht : lk E.tab t = some ⟨td, tz, tb, tr⟩) (hty : td = .slice e) (hte : lk E.tab e = some ⟨ed, ez, eb, er⟩) (hz : er = some z) (hzl : absL z.cells.toList = some zl) (hzp : Nat.blt 0 z.cells.size = true)
    (hb : Nat.ble (len * ez) 16777216 = true) (hl : vfill (fun i => some (i * ez, ez)) s (vzero (len * ez) zl) parts.toList = some l) (hll : Nat.beq l.length (len * ez) = true) (hsz : Nat.blt 0 ez = true) (hn : h.n = c) :
    Ac E k B true s h o ((d, .sl ez c 0 len) :: s) ⟨c + 1, (c, some (.cells l)) :: h.b⟩ :=
  Ac.grow (t := e) (rv := id) hd hk hn _ fun U m a w r => by
    obtain ⟨cells, h1, h2⟩ := slice_run r ho ht hty hte hz hzl hzp hb hl
    have e1 := h2.len
    have e2 := Nat.eq_of_beq_eq_true hll
    simp only [Array.length_toList] at e1
    have hm : len ≤ maxLen := by
      have := Nat.le_of_ble_eq_true hb
      have := Nat.le_mul_of_pos_right len (Nat.le_of_ble_eq_true hsz); simp only [maxLen]; omega
    exact ⟨cells, _, w, _, h1, rfl, rfl, rfl, rfl, ⟨by omega, fun j c v hc hv => h2.at_ j c v hc (by simpa using hv)⟩, fun U' m' n' g1 g2 g3 => .sl g1 g2 (Nat.le_refl _) hm g3 (by omega)⟩
/-- The same, of data, in a block of data. -/
theorem Ac.sliceDat {c : Nat} {e : TypeId} {ed : TypeDesc} {ez eb : Nat} {er : Option Value} {len : Nat} {parts : Array (Nat × Operand)} {z : Value} {zl l : List V} {ds : List D} (ho : o.op = .buildSlice t len parts) (hd : o.dst = some d) (hk : Nat.blt d k = true) (ht : lk E.tab t = some ⟨td, tz, tb, tr⟩) (hty : td = .slice e) (hte : lk E.tab e = some ⟨ed, ez, eb, er⟩) (hz : er = some z) (hzl : absL z.cells.toList = some zl) (hzp : Nat.blt 0 z.cells.size = true)
    (hb : Nat.ble (len * ez) 16777216 = true) (hl : vfill (fun i => some (i * ez, ez)) s (vzero (len * ez) zl) parts.toList = some l) (hll : Nat.beq l.length (len * ez) = true) (hsz : Nat.blt 0 ez = true) (hds : unD l = some ds) (hn : h.n = c) :
    Ac E k B true s h o ((d, .sl ez c 0 len) :: s) ⟨c + 1, (c, some (.dat ds)) :: h.b⟩ := fun U m a w r => by
  obtain ⟨nx, a', w', U', m', h1, h2, h3, h4, h5⟩ := Ac.slice ho hd hk ht hty hte hz hzl hzp hb hl hll hsz hn U m a w r
  subst hn
  have hl' : BlkIs (.dat ds) l := by rw [unD_ok hds]; exact .dat ds
  obtain ⟨hid, hbr⟩ := h3.heap.live h.n (.cells l) (lk_here _ _ _)
  have hbr' : BR U' m' (h.n + 1) w' (m' h.n) (.dat ds) := by
    generalize m' h.n = mx at hbr
    cases hbr with
    | cells hc => exact hl'.br hc
    | cells0 =>
      have : ds = [] := by simpa [unD] using hds.symm
      subst this; exact .dat0
  obtain ⟨r2, st2⟩ := h3.reblk (blk' := .dat ds) (lk_here _ _ _) hbr'
  have keep : ∀ i, lk ((h.n, some (Blk.dat ds)) :: (h.n, some (Blk.cells l)) :: h.b) i = lk ((h.n, some (Blk.dat ds)) :: h.b) i := fun i => by
    simp only [lk_cons]; split <;> rfl
  refine ⟨nx, a', w', U', m', h1, h2, ⟨r2.slots, r2.size, r2.defers, ⟨fun i bk g => r2.heap.live i bk (by rw [keep]; exact g), fun i bk x g => r2.heap.ok i bk x (by rw [keep]; exact g), fun i i' bk bk' x g g' => r2.heap.inj i i' bk bk' x (by rw [keep]; exact g) (by rw [keep]; exact g'), r2.heap.ulow⟩, r2.base⟩, ?_, h5⟩
  have st := h4.trans st2
  exact { st with own := fun x hx ⟨i, bk, g1, g2⟩ => st.own x hx ⟨i, bk, by rw [keep]; exact g1, g2⟩ }
/-- The same, of data that nobody will write. -/
theorem Ac.sliceD {e : TypeId} {ed : TypeDesc} {ez eb : Nat} {er : Option Value} {len : Nat} {parts : Array (Nat × Operand)} {z : Value} {zl l : List V} {ds : List D} (ho : o.op = .buildSlice t len parts) (hd : o.dst = some d) (hk : Nat.blt d k = true) (ht : lk E.tab t = some ⟨td, tz, tb, tr⟩) (hty : td = .slice e) (hte : lk E.tab e = some ⟨ed, ez, eb, er⟩) (hz : er = some z) (hzl : absL z.cells.toList = some zl) (hzp : Nat.blt 0 z.cells.size = true)
    (hb : Nat.ble (len * ez) 16777216 = true) (hl : vfill (fun i => some (i * ez, ez)) s (vzero (len * ez) zl) parts.toList = some l) (hsz : Nat.blt 0 ez = true) (hds : unD l = some ds) :
    Ac E k B true s h o ((d, .d (.lst len ds)) :: s) h := fun U m a w r => by
  obtain ⟨cells, h1, h2⟩ := slice_run r ho ht hty hte hz hzl hzp hb hl
  obtain ⟨r1, st1⟩ := r.growU (w' := w.alloc (.cells cells e)) (obj := .cells cells e) rfl rfl rfl rfl
  refine ⟨_, _, _, _, m, h1, .inl ⟨_, rfl, rfl⟩, ?_, st1.low r.base, fun _ x hx => push_old rfl hx⟩
  rw [hd]
  have hm : len ≤ maxLen := by
    have := Nat.le_of_ble_eq_true hb
    have := Nat.le_mul_of_pos_right len (Nat.le_of_ble_eq_true hsz); simp only [maxLen]; omega
  have hl' := unD_ok hds
  subst hl'
  have hlen := h2.len
  simp only [List.length_map, Array.length_toList] at hlen
  refine r1.put hk (.d (.lst (fun j => cells.getD j undef) (Nat.le_refl _) hm (fun j hj => ⟨_, rfl, .inr rfl, ?_⟩) (fun j c hc => ?_)))
  · rw [Addr.add_lit, Nat.zero_add, cell_of_arr (push_new rfl), Array.getD_eq_getD_getElem?, Array.getElem?_eq_getElem (by omega)]; rfl
  · have hj : j < cells.size := by rw [← hlen]; exact (List.getElem?_eq_some_iff.1 hc).1
    have := h2.at_ j (.d c) cells[j] (by rw [List.getElem?_map, hc]; rfl) (by simp [hj])
    rw [Array.getD_eq_getD_getElem?, Array.getElem?_eq_getElem hj]
    cases this with | d g => exact g.mono (fun _ h => .inl h) (fun x hx => push_old rfl (r.heap.ulow x hx))
/-- store. -/
theorem store_run {id off : Nat} {blk blk' : Blk} {bc : List V} (r : SR k B U m s h a w) (ho : o.op = .store t x y) (ht : lk E.tab t = some ⟨td, tz, tb, tr⟩) (hx : evO s x = some (.ptr id off)) (hb : lk h.b id = some (some blk)) (hbl : BlkIs blk bc) (hy : evO s y = some v) (hok : v.cs.all cellOk = true) (hz : Nat.beq v.cs.length tz = true)
    (hin : off + v.cs.length ≤ bc.length) (hbl' : BlkIs blk' (lput bc off v.cs)) :
    ∃ w', (execOp a.eval o).run E.P w = .ok .skip w' ∧ SR k B U m s ⟨h.n, (id, some blk') :: h.b⟩ a w' ∧ Stp h.n U m h.n h.b w U m h.n ((id, some blk') :: h.b) w' := by
  obtain ⟨b, h1, h2, h3⟩ := r.evPtr hx
  obtain ⟨_, hbr⟩ := r.heap.live id _ hb
  rw [h1] at hbr
  obtain ⟨arr, et, g1, g2, g3⟩ := hbl.cr hbr
  obtain ⟨c1, c2, c3⟩ := cs_ok (r.opnd hy) hok
  have hz' := Nat.eq_of_beq_eq_true hz
  have hst := run_storeCells_at (P := E.P) b off et (a.eval y).cells.toList 0 arr w g1 (by simp only [Array.length_toList]; omega) c3
  simp only [Nat.add_zero] at hst
  have hasz : (arr.toList.take off ++ (a.eval y).cells.toList ++ arr.toList.drop (off + (a.eval y).cells.toList.length)).toArray.size = arr.size := by
    simp only [List.size_toArray, List.length_append, List.length_take, List.length_drop, Array.length_toList]; omega
  have hU : ∀ z, U z → (w.setRow b (arr.toList.take off ++ (a.eval y).cells.toList ++ arr.toList.drop (off + (a.eval y).cells.toList.length)).toArray).heap[z]? = w.heap[z]? := fun z hz => setRow_other w b z _ (by rintro rfl; exact (r.heap.ok id blk z hb h1).1 hz)
  have hmo : ∀ c u, VR U m h.n w c u → VR U m h.n (w.setRow b (arr.toList.take off ++ (a.eval y).cells.toList ++ arr.toList.drop (off + (a.eval y).cells.toList.length)).toArray) c u := fun c u h5 => h5.mono (fun _ h => h) hU (fun x z hz => bsize_set g1 hasz hz) (Nat.le_refl _) (fun _ _ => rfl)
  obtain ⟨r2, st2⟩ := r.write (blk' := blk') hb h1 g1 hasz
    (hbl'.br ⟨_, et, setRow_same g1, by rw [hasz, lput_len hin]; exact g2, fun j c u hc hu => by
      have hu' : (arr.toList.take off ++ (a.eval y).cells.toList ++ arr.toList.drop (off + (a.eval y).cells.toList.length))[j]? = some u := by simpa using hu
      have t1 : (bc.take off).length = off := by rw [List.length_take]; omega
      have t2 : (arr.toList.take off).length = off := by rw [List.length_take, Array.length_toList]; omega
      have t3 : (a.eval y).cells.toList.length = v.cs.length := by rw [Array.length_toList]; exact c1.symm
      rcases get_append3' hc with ⟨a1, a2⟩ | ⟨a1, a2, a3⟩ | ⟨a1, a2⟩ <;> rcases get_append3' hu' with ⟨b1, b2⟩ | ⟨b1, b2, b3⟩ | ⟨b1, b2⟩ <;> try omega
      · rw [List.getElem?_take, if_pos (by omega)] at a2 b2; exact hmo c u (g3 j c u a2 (by simpa using b2))
      · rw [t1] at a3; rw [t2] at b3; exact hmo c u (c2 _ c u a3 (by simpa using b3))
      · rw [t1, List.getElem?_drop] at a2
        rw [t2, List.getElem?_drop] at b2
        refine hmo c u (g3 j c u ?_ ?_)
        · rwa [show off + v.cs.length + (j - (off + v.cs.length)) = j by omega] at a2
        · rw [t3, show off + v.cs.length + (j - (off + v.cs.length)) = j by omega] at b2; simpa using b2⟩)
  refine ⟨_, ?_, r2, st2⟩
  have hcs : ¬ ((a.eval y).cells.size ≠ tz) := by omega
  simp only [execOp, ho, Instr.storeAt, h2, Instr.sureAddr, Sem.run_bind, Sem.run_pure, Result.andThen_ok, storeVar, szo ht w, if_neg hcs, hst]
theorem Ac.store {id off : Nat} {bc : List V} (ho : o.op = .store t x y) (hd : o.dst = none) (ht : lk E.tab t = some ⟨td, tz, tb, tr⟩) (hx : evO s x = some (.ptr id off)) (hb : lk h.b id = some (some (.cells bc))) (hy : evO s y = some v) (hok : v.cs.all cellOk = true) (hz : Nat.beq v.cs.length tz = true)
    (hin : Nat.ble (off + v.cs.length) bc.length = true) : Ac E k B false s h o s ⟨h.n, (id, some (.cells (lput bc off v.cs))) :: h.b⟩ := fun U m a w r => by
  obtain ⟨w', h1, h2, h3⟩ := store_run r ho ht hx hb (.cells bc) hy hok hz (Nat.le_of_ble_eq_true hin) (.cells _)
  refine ⟨_, _, w', U, m, h1, .inr ⟨rfl, rfl⟩, ?_, h3.low r.base, fun h => by cases h⟩
  rw [hd]; exact h2
theorem Ac.storeD {id off : Nat} {bc ds : List D} (ho : o.op = .store t x y) (hd : o.dst = none) (ht : lk E.tab t = some ⟨td, tz, tb, tr⟩) (hx : evO s x = some (.ptr id off)) (hb : lk h.b id = some (some (.dat bc))) (hy : evO s y = some v) (hds : unD v.cs = some ds) (hz : Nat.beq v.cs.length tz = true)
    (hin : off + v.cs.length ≤ bc.length) : Ac E k B false s h o s ⟨h.n, (id, some (.dat (dput bc off ds))) :: h.b⟩ := fun U m a w r => by
  have hcs := unD_ok hds
  obtain ⟨w', h1, h2, h3⟩ := store_run (blk' := .dat (dput bc off ds)) r ho ht hx hb (.dat bc) hy (by rw [hcs]; exact all_d ds) hz (by simpa using hin) (by rw [hcs, lput_map]; exact .dat _)
  refine ⟨_, _, w', U, m, h1, .inr ⟨rfl, rfl⟩, ?_, h3.low r.base, fun h => by cases h⟩
  rw [hd]; exact h2

/-- A nil slice becomes a row without a block. -/
theorem SR.virt {tt e : Nat} (r : SR k B U m s h a w) (hv : lk s tt = some (.d .nsl)) :
    SR k B U (ext m h.n none) ((tt, .sl e h.n 0 0) :: s) ⟨h.n + 1, (h.n, some (.dat [])) :: h.b⟩ a w ∧ Stp h.n U m h.n h.b w U (ext m h.n none) (h.n + 1) ((h.n, some (.dat [])) :: h.b) w := by
  have hme : ∀ i, i < h.n → ext m h.n none i = m i := fun i hi => ext_ne (by omega)
  have st : Stp h.n U m h.n h.b w U (ext m h.n none) (h.n + 1) ((h.n, some (.dat [])) :: h.b) w :=
    { Stp.refl h.n U m h.n h.b w with
      hn := by omega, hm := hme, own := fun x hx ⟨id, bk, h1, h2⟩ => by
        rw [lk_cons] at h1
        split at h1
        · rename_i e; subst e; rw [ext_here] at h2; cases h2
        · have := (r.heap.live id bk h1).1
          rw [hme id this] at h2
          exact ⟨id, bk, h1, h2⟩ }
  have r1 : SR k B U (ext m h.n none) s ⟨h.n + 1, (h.n, some (.dat [])) :: h.b⟩ a w := r.stp st ⟨fun id bk h1 => by
      rw [lk_cons] at h1
      split at h1
      · rename_i e; subst e; injection h1 with h1; injection h1 with h1; subst h1
        exact ⟨Nat.lt_succ_self _, by rw [ext_here]; exact .dat0⟩
      · obtain ⟨g1, g2⟩ := r.heap.live id bk h1
        refine ⟨Nat.lt_succ_of_lt g1, ?_⟩
        rw [hme id g1]
        exact g2.mono (fun _ h => h) (fun _ _ => rfl) (fun _ _ h => h) (by show h.n ≤ h.n + 1; omega) hme (fun _ _ => rfl),
    fun id bk x h1 h2 => by
      rw [lk_cons] at h1
      split at h1
      · rename_i e; subst e; rw [ext_here] at h2; cases h2
      · have := (r.heap.live id bk h1).1
        rw [hme id this] at h2
        exact r.heap.ok id bk x h1 h2,
    fun id id' bk bk' x h1 h2 h3 h4 => by
      rw [lk_cons] at h1 h2
      split at h1
      · rename_i e; subst e; rw [ext_here] at h3; cases h3
      · split at h2
        · rename_i e; subst e; rw [ext_here] at h4; cases h4
        · have g := (r.heap.live id bk h1).1
          have g' := (r.heap.live id' bk' h2).1
          rw [hme id g] at h3; rw [hme id' g'] at h4
          exact r.heap.inj id id' bk bk' x h1 h2 h3 h4,
    r.heap.ulow⟩
  refine ⟨⟨fun t v hv2 => ?_, r1.size, r1.defers, r1.heap, r1.base⟩, st⟩
  rw [lk_cons] at hv2
  split at hv2
  · rename_i e; subst e; injection hv2 with hv2; subst hv2
    obtain ⟨x, h1, h2⟩ := r.slots _ _ hv
    cases h2 with | d h2 =>
    cases h2
    exact ⟨_, h1, .sl0 (Nat.lt_succ_self _) (ext_here _ _ _)⟩
  · exact r1.slots t v hv2
theorem T.virt {tt e : Nat} {c : Code} {n : Nat} (hv : lk s tt = some (.d .nsl)) (hn : h.n = n) (t : T E k B c ((tt, .sl e n 0 0) :: s) ⟨n + 1, (n, some (.dat [])) :: h.b⟩ Q) : T E k B c s h Q := fun U m a w r => by
  subst hn
  obtain ⟨r1, st⟩ := r.virt (e := e) hv
  exact wp_mono (t _ _ _ _ r1) fun e a2 w2 q => RP_trans (st.low r.base) q
theorem TO.virt {ops : Array Oper} {l : List Oper} {tt e : Nat} {n : Nat} (hv : lk s tt = some (.d .nsl)) (hn : h.n = n) (t : TO E k B ops l ((tt, .sl e n 0 0) :: s) ⟨n + 1, (n, some (.dat [])) :: h.b⟩ Q) : TO E k B ops l s h Q := fun U m a w r => by
  subst hn
  obtain ⟨r1, st⟩ := r.virt (e := e) hv
  exact RP.step' (st.low r.base) (t _ _ _ _ r1)
/-- A row of data that nobody writes any more. -/
theorem SR.freeze {tt e id off n : Nat} {cs l : List D} (r : SR k B U m s h a w) (hv : lk s tt = some (.sl e id off n)) (hb : lk h.b id = some (some (.dat cs))) (hl : (cs.drop off).take (n * e) = l) (hz : l.length = n * e) :
    ∃ U', SR k B U' m ((tt, .d (.lst n l)) :: dropS id s) ⟨h.n, (id, none) :: dropH id h.b⟩ a w ∧ Stp B U m h.n h.b w U' m h.n ((id, none) :: dropH id h.b) w := by
  obtain ⟨r1, st1⟩ := r.drop id
  have hbd : lk (dropH id h.b) id = some (some (.dat cs)) := by unfold dropH; rw [lk_map, hb]; rfl
  obtain ⟨_, hbr⟩ := r.heap.live id _ hb
  refine ⟨fun x => U x ∨ m id = some x, ?_⟩
  have hlow : ∀ x, m id = some x → x < w.heap.size := fun x hx => (r.heap.ok id _ x hb hx).2
  have st : Stp B U m h.n h.b w (fun x => U x ∨ m id = some x) m h.n ((id, none) :: dropH id h.b) w :=
    { Stp.refl B U m h.n h.b w with
      hU := fun _ h => .inl h, own := fun x hx ⟨i, bk, h1, h2⟩ => by
        rw [lk_cons] at h1
        split at h1
        · cases h1
        · obtain ⟨b0, h3, _⟩ := lk_dropH h1; exact ⟨i, b0, h3, h2⟩
      lim := fun x hx h => h.elim .inl (fun h => .inr ⟨id, _, hb, h⟩) }
  have hmo : ∀ {v : V} {r : Value}, VR U m h.n w v r → VR (fun x => U x ∨ m id = some x) m h.n w v r := fun h => h.mono (fun _ h => .inl h) (fun _ _ => rfl) (fun _ _ h => h) (Nat.le_refl _) (fun _ _ => rfl)
  refine ⟨⟨fun t v hv2 => ?_, r.size, r.defers, ⟨fun i bk h1 => ?_, fun i bk x h1 h2 => ?_, fun i i' bk bk' x h1 h2 h3 h4 => ?_, fun x hx => hx.elim (r.heap.ulow x) (hlow x)⟩, r.base⟩, st⟩
  · rw [lk_cons] at hv2
    split at hv2
    · rename_i e1; subst e1; injection hv2 with hv2; subst hv2
      obtain ⟨x, h1, h2⟩ := r.slots _ _ hv
      refine ⟨x, h1, ?_⟩
      cases h2 with
      | sl0 _ hm =>
        have : l = [] := List.eq_nil_of_length_eq_zero (by omega)
        subst this
        exact .d (DR.nil_lst .nsl)
      | @sl _ _ _ _ xx cap z _ hm hk hc hz2 hs =>
        rw [hm] at hbr
        cases hbr with | dat hbr =>
        obtain ⟨arr, et, g1, g2, g3⟩ := hbr
        have hin : ∀ j, j < l.length → ∃ c rv, l[j]? = some c ∧ arr[off + j]? = some rv ∧ DR U w c rv := fun j hj => by
          have e1 := List.getElem?_eq_getElem hj
          have e2 := take_get hl e1
          have e3 : off + j < arr.size := Nat.lt_of_lt_of_le (List.getElem?_eq_some_iff.1 e2).1 g2
          exact ⟨_, _, e1, Array.getElem?_eq_getElem e3, g3 _ _ _ e2 (Array.getElem?_eq_getElem e3)⟩
        refine .d (.lst (fun j => arr.getD (off + j) undef) hk hc (fun j hj => ⟨_, rfl, .inr hm, ?_⟩) (fun j c hc2 => ?_))
        · obtain ⟨c, rv, _, e2, _⟩ := hin j hj
          rw [Addr.add_lit, cell_of_arr g1, Array.getD_eq_getD_getElem?, e2]; rfl
        · obtain ⟨c', rv, e1, e2, e3⟩ := hin j (List.getElem?_eq_some_iff.1 hc2).1
          rw [hc2] at e1; injection e1 with e1; subst e1
          rw [Array.getD_eq_getD_getElem?, e2]
          exact e3.mono (fun _ h => .inl h) (fun _ _ => rfl)
    · obtain ⟨x, h1, h2⟩ := r1.slots t v hv2
      exact ⟨x, h1, hmo h2⟩
  · rw [lk_cons] at h1
    split at h1
    · cases h1
    · obtain ⟨g1, g2⟩ := r1.heap.live i bk h1
      exact ⟨g1, g2.mono (fun _ h => .inl h) (fun _ _ => rfl) (fun _ _ h => h) (Nat.le_refl _) (fun _ _ => rfl) (fun _ _ => rfl)⟩
  · rw [lk_cons] at h1
    split at h1
    · cases h1
    · rename_i hne
      obtain ⟨g1, g2⟩ := r1.heap.ok i bk x h1 h2
      exact ⟨fun hx => hx.elim g1 (fun hx => hne (r1.heap.inj id i _ _ x hbd h1 hx h2)), g2⟩
  · rw [lk_cons] at h1 h2
    split at h1
    · cases h1
    · split at h2
      · cases h2
      · exact r1.heap.inj i i' bk bk' x h1 h2 h3 h4
theorem T.freeze {tt e id off n : Nat} {cs l : List D} {c : Code} (hv : lk s tt = some (.sl e id off n)) (hb : lk h.b id = some (some (.dat cs))) (hl : (cs.drop off).take (n * e) = l) (hz : l.length = n * e)
    (t : T E k B c ((tt, .d (.lst n l)) :: dropS id s) ⟨h.n, (id, none) :: dropH id h.b⟩ Q) : T E k B c s h Q := fun U m a w r => by
  obtain ⟨U', r1, st⟩ := r.freeze hv hb hl hz
  exact wp_mono (t _ _ _ _ r1) fun e a2 w2 q => RP_trans st q
theorem TO.freeze {ops : Array Oper} {lo : List Oper} {tt e id off n : Nat} {cs l : List D} (hv : lk s tt = some (.sl e id off n)) (hb : lk h.b id = some (some (.dat cs))) (hl : (cs.drop off).take (n * e) = l) (hz : l.length = n * e)
    (t : TO E k B ops lo ((tt, .d (.lst n l)) :: dropS id s) ⟨h.n, (id, none) :: dropH id h.b⟩ Q) : TO E k B ops lo s h Q := fun U m a w r => by
  obtain ⟨U', r1, st⟩ := r.freeze hv hb hl hz
  exact RP.step' st (t _ _ _ _ r1)
end
end Go.Proofs.Ythkoinngmcpjgaa

/-
  The logic's rules for calls: a function is entered, and called; pure functions. Conditions: none.
-/
namespace Go.Proofs.Ythkoinngmcpjgaa
open Go.RowKit

def argS : Nat → List V → Slots
  | _, [] => []
  | i, v :: r => (i, v) :: argS (i + 1) r
theorem argS_get : ∀ (l : List V) (i t : Nat) (v : V), lk (argS i l) t = some v → i ≤ t ∧ l[t - i]? = some v
  | [], i, t, v, h => by simp [argS, lk] at h
  | x :: r, i, t, v, h => by
    simp only [argS] at h
    rw [lk_cons] at h
    split at h
    · rename_i e; subst e; injection h with h; subst h; exact ⟨Nat.le_refl _, by simp⟩
    · rename_i hne
      obtain ⟨h1, h2⟩ := argS_get r (i + 1) t v h
      refine ⟨by omega, ?_⟩
      rw [show t - i = (t - (i + 1)) + 1 by omega]; simpa using h2
def getL (s : Slots) : List Nat → Option (List V)
  | [] => some []
  | t :: r => match lk s t, getL s r with
    | some v, some l => some (v :: l)
    | _, _ => none
/-- A function's result. -/
def resV (s : Slots) : List Nat → Option V
  | [t] => lk s t
  | ts => (getL s ts).map .tup
def resR (g : Nat → Value) : List Nat → Value
  | [t] => g t
  | ts => .tuple (ts.map g).toArray
/-- A function's end. -/
def Fin (rs : List Nat) (Q : V → Hp → Prop) : Post := fun e s h => (e = .normal ∨ e = .ret) ∧ ∃ r, resV s rs = some r ∧ Q r h
theorem Fin.ret {rs : List Nat} {Q : V → Hp → Prop} {s : Slots} {h : Hp} {r : V} (hr : resV s rs = some r) (q : Q r h) : Fin rs Q .ret s h := ⟨.inr rfl, r, hr, q⟩
theorem Fin.normal {rs : List Nat} {Q : V → Hp → Prop} {s : Slots} {h : Hp} {r : V} (hr : resV s rs = some r) (q : Q r h) : Fin rs Q .normal s h := ⟨.inl rfl, r, hr, q⟩

section
variable {E : Env} {k B : Nat} {s s' : Slots} {h h' : Hp} {Q Q' : Post} {U : Nat → Prop} {m : Nat → Option Nat} {a : Act} {w w' : World} {o : Oper} {v : V} {d : Nat} {t : TypeId} {x y : Operand}

theorem getL_ok (r : SR k B U m s h a w) : ∀ (ts : List Nat) (l : List V), getL s ts = some l → l.length = ts.length ∧ ∀ (j : Nat) (c : V) (v : Value), l[j]? = some c → (ts.map fun t => a.tmps.getD t undef)[j]? = some v → VR U m h.n w c v
  | [], l, hl => by simp only [getL, Option.some.injEq] at hl; subst hl; exact ⟨rfl, fun j c v hc => by simp at hc⟩
  | t :: ts, l, hl => by
    simp only [getL] at hl
    split at hl
    · rename_i v l' h1 h2
      injection hl with hl; subst hl
      obtain ⟨e1, e2⟩ := getL_ok r ts l' h2
      refine ⟨by simp [e1], fun j c u hc hu => ?_⟩
      cases j with
      | zero => simp only [List.map_cons, List.getElem?_cons_zero, Option.some.injEq] at hc hu; subst hc; subst hu; exact r.tmp h1
      | succ j => exact e2 j c u (by simpa using hc) (by simpa using hu)
    · cases hl
theorem run_mapM {P : Program} {g : ResultVar → Sem Value} {F : Nat → Value} {w : World} (hg : ∀ t, (g (.tmp t)).run P w = .ok (F t) w) : ∀ ts : List Nat, ((ts.map ResultVar.tmp).mapM g).run P w = .ok (ts.map F) w
  | [] => rfl
  | t :: ts => by simp only [List.map_cons, List.mapM_cons, Sem.run_bind, hg t, Sem.run_pure, Result.andThen_ok, run_mapM hg ts]
theorem run_results {P : Program} {fn : Func} {rs : List Nat} (hr : fn.results = (rs.map ResultVar.tmp).toArray) (tmps : Array Value) (w : World) :
    (results fn tmps).run P w = .ok (resR (fun t => tmps.getD t undef) rs) w := by
  unfold results
  rw [hr, Array.mapM_eq_mapM_toList, map_eq_pure_bind, List.toList_toArray, Sem.run_bind, Sem.run_bind, run_mapM (F := fun t => tmps.getD t undef) (fun t => rfl) rs]
  simp only [Result.andThen_ok, Sem.run_pure]
  match rs with
  | [] => rfl
  | [t] => rfl
  | t :: u :: r => simp [resR]
theorem res_ok (r : SR k B U m s h a w) {rs : List Nat} {rv : V} (hr : resV s rs = some rv) : VR U m h.n w rv (resR (fun t => a.tmps.getD t undef) rs) := by
  match rs, hr with
  | [t], hr => exact r.tmp hr
  | [], hr => simp only [resV, getL, Option.map_some, Option.some.injEq] at hr; subst hr; exact .tup rfl (fun j c v hc => by simp at hc)
  | t :: u :: l, hr =>
    simp only [resV] at hr
    obtain ⟨vs, h1, rfl⟩ := Option.map_eq_some_iff.1 hr
    obtain ⟨e1, e2⟩ := getL_ok r _ _ h1
    exact .tup (by simp [e1]) (fun j c v hc hv => e2 j c v hc (by simpa using hv))
/-- A function is entered. -/
theorem Call.enter {f : FuncId} {fn : Func} {c : Code} {nt : Nat} {rs : List Nat} {args : List V} {R : V → Hp → Prop} (hf : E.P.funcs[f]? = some fn) (hb : fn.body = some c) (hnt : fn.ntmps = nt) (hle : Nat.ble args.length nt = true) (hres : fn.results = (rs.map ResultVar.tmp).toArray)
    (t : T E nt h.n c (argS 0 args) h (Fin rs R)) : Call E f args h R := fun U m w vs hH hV => by
  have hle' := Nat.le_of_ble_eq_true hle
  have hlen := hV.len
  have r0 : SR nt h.n U m (argS 0 args) h { tmps := vs ++ Array.replicate (fn.ntmps - vs.size) undef, defers := [] } w := by
    refine ⟨fun t v hv => ?_, ?_, rfl, hH, Nat.le_refl _⟩
    · obtain ⟨_, h1⟩ := argS_get args 0 t v hv
      have ht : t < vs.size := by rw [← hlen]; exact (List.getElem?_eq_some_iff.1 h1).1
      exact ⟨vs[t], by simp [Array.getElem?_append, ht], hV.at_ t v _ h1 (by simp [ht])⟩
    · simp only [Array.size_append, Array.size_replicate]; omega
  refine calls_of_wp hf hb (wp_mono (t U m _ w r0) fun e a' w' ⟨U', m', s', h', q, r1, st⟩ => ?_)
  obtain ⟨he, rv, hrv, hq⟩ := q
  have : a'.defers = [] ∧ ∃ v, (results fn a'.tmps).run E.P w' = .ok v w' ∧ ∃ r R0 U' m' h', (Ending.returned v : Ending) = .returned R0 ∧ R r h' ∧ VR U' m' h'.n w' r R0 ∧ HR U' m' h'.n h'.b w' ∧ Stp h.n U m h.n h.b w U' m' h'.n h'.b w' :=
    ⟨r1.defers, _, run_results hres _ _, rv, _, U', m', h', rfl, hq, res_ok r1 hrv, r1.heap, st⟩
  rcases he with rfl | rfl <;> exact this
theorem Call.mono {f : FuncId} {args : List V} {R R' : V → Hp → Prop} (c : Call E f args h R) (hR : ∀ r h, R r h → R' r h) : Call E f args h R' := fun U m w vs hH hV =>
  (c U m w vs hH hV).mono fun e w' ⟨r, R0, U', m', h', h1, h2, rest⟩ => ⟨r, R0, U', m', h', h1, hR _ _ h2, rest⟩

/-- Operands' values. -/
def evL (s : Slots) : List Operand → Option (List V)
  | [] => some []
  | x :: r => match evO s x, evL s r with
    | some v, some l => some (v :: l)
    | _, _ => none
/-- Of arguments less is known. -/
inductive AL : List V → List V → Prop where
  | nil : AL [] []
  | cons {v v' : V} {l l' : List V} (h : VLe v v') (k : AL l l') : AL (v :: l) (v' :: l')
theorem AL.refl : ∀ l : List V, AL l l
  | [] => .nil
  | _ :: r => .cons (.refl _) (AL.refl r)
theorem evL_ok (r : SR k B U m s h a w) : ∀ (xs : List Operand) (l : List V), evL s xs = some l → VRs U m h.n w l (xs.map a.eval).toArray
  | [], l, hl => by simp only [evL, Option.some.injEq] at hl; subst hl; exact ⟨rfl, fun j x v h1 => by simp at h1⟩
  | x :: xs, l, hl => by
    simp only [evL] at hl
    split at hl
    · rename_i v l' h1 h2
      injection hl with hl; subst hl
      have ih := evL_ok r xs l' h2
      refine ⟨by have := ih.len; simpa using this, fun j c u hc hu => ?_⟩
      cases j with
      | zero => simp at hc hu; subst hc; subst hu; exact r.opnd h1
      | succ j => exact ih.at_ j c u (by simpa using hc) (by simpa using hu)
    · cases hl
theorem VRs.le {n : Nat} : ∀ {l l' : List V} {vs : Array Value}, VRs U m n w l vs → AL l l' → VRs U m n w l' vs := by
  intro l l' vs hV hA
  refine ⟨?_, ?_⟩
  · have : l.length = l'.length := by
      clear hV
      induction hA with
      | nil => rfl
      | cons _ _ ih => simp [ih]
    rw [← this]; exact hV.len
  · have key : ∀ (l l' : List V), AL l l' → ∀ (j : Nat) (x' : V), l'[j]? = some x' → ∃ x, l[j]? = some x ∧ VLe x x' := by
      intro l l' hA
      induction hA with
      | nil => intro j x' hx; simp at hx
      | @cons v v' l l' h k ih =>
        intro j x' hx
        cases j with
        | zero => simp at hx; subst hx; exact ⟨v, rfl, h⟩
        | succ j => exact ih j x' (by simpa using hx)
    intro j x' v hx hv
    obtain ⟨x, h1, h2⟩ := key l l' hA j x' hx
    exact (hV.at_ j x v h1 hv).le h2
/-- What an operation calls. -/
def Enters (E : Env) (f : FuncId) : Prop := ∀ args w, (callFunc f args).run E.P w = .ok (.enter f args) w
variable {ops : Array Oper} {rest : List Oper}
def putR (d : Option Nat) (v : V) (s : Slots) : Slots := match d with | some d => (d, v) :: s | none => s
def dstOk (d : Option Nat) (k : Nat) : Bool := match d with | some d => Nat.blt d k | none => true
theorem SR.putR (r : SR k B U m s h a w) {d : Option Nat} (hk : dstOk d k = true) {v : V} {x : Value} (hv : VR U m h.n w v x) : SR k B U m (putR d v s) h (a.put d x) w := by
  cases d with
  | none => exact r
  | some d => exact r.put hk hv
theorem call_run {f : FuncId} {xs : Array Operand} {ats : Array TypeId} {args : List V} {vs : List V} (r : SR k B U m s h a w) (ho : o.op = .call { callee := .value (.func f), args := xs, argTypes := ats }) (he : Enters E f) (hv : evL s xs.toList = some vs) (ha : AL vs args) :
    ∃ as, (execOp a.eval o).run E.P w = .ok (.enter f as) w ∧ VRs U m h.n w args as := by
  refine ⟨xs.map a.eval, ?_, ?_⟩
  · have : execOp a.eval o = callFunc f (#[] ++ xs.map a.eval ++ #[]) := by
      cases o; subst ho; rfl
    rw [this, Array.empty_append, Array.append_empty]; exact he _ w
  · have := (evL_ok r xs.toList vs hv).le ha
    rwa [show (xs.toList.map a.eval).toArray = xs.map a.eval by rw [← Array.toList_map]] at this
/-- A call. -/
theorem TO.call {f : FuncId} {xs : Array Operand} {ats : Array TypeId} {args vs : List V} {R : V → Hp → Prop} (ho : o.op = .call { callee := .value (.func f), args := xs, argTypes := ats })
    (c : Call E f args h R) (he : Enters E f) (hv : evL s xs.toList = some vs) (ha : AL vs args) (hg : o.guard = none) (hk : dstOk o.dst k = true) (t : ∀ r h', R r h' → TO E k B ops rest (putR o.dst r s) h' Q) : TO E k B ops (o :: rest) s h Q := fun U m a w r => by
  obtain ⟨as, h1, h2⟩ := call_run r ho he hv ha
  refine wpList_plain hg fun K hK => ?_
  unfold Oper.wp
  rw [h1, Oper.upon_enter]
  refine (c U m w as r.heap h2).mono fun e w' ⟨rv, R0, U', m', h', e1, q, hvr, hH, st⟩ => ?_
  subst e1
  have r1 := r.stp st hH
  exact hK _ _ (RP.step' (st.low r.base) (t rv h' q _ _ _ _ (r1.putR hk hvr)))

mutual
/-- Names no block at hand. -/
def V.pure : V → Bool
  | .d _ => true
  | .un => true
  | .agg cs => pureL cs
  | .tup vs => pureL vs
  | .fn _ a c => pureL a && pureL c
  | .ifc _ v => v.pure
  | _ => false
def pureL : List V → Bool
  | [] => true
  | v :: r => v.pure && pureL r
end
theorem pureL_get {l : List V} (h : pureL l = true) {j : Nat} {v : V} (hj : l[j]? = some v) : v.pure = true := by
  induction l generalizing j with
  | nil => simp at hj
  | cons x r ih =>
    simp only [pureL, Bool.and_eq_true] at h
    cases j with
    | zero => simp at hj; subst hj; exact h.1
    | succ j => exact ih h.2 (by simpa using hj)
theorem pureL_map (l : List D) : pureL (l.map .d) = true := by
  induction l with
  | nil => rfl
  | cons x r ih => simp only [List.map_cons, pureL, ih]; rfl
theorem VR.elsewhere {n n' : Nat} {m' : Nat → Option Nat} {v : V} {r : Value} (h : VR U m n w v r) (hp : v.pure = true) : VR U m' n' w v r := by
  induction h with
  | un v => exact .un v
  | d h => exact .d h
  | nn h hn => cases hp
  | sl => cases hp
  | sl0 => cases hp
  | ptr => cases hp
  | map => cases hp
  | el => cases hp
  | fn la lc ha hc iha ihc =>
    simp only [V.pure, Bool.and_eq_true] at hp
    exact .fn la lc (fun j x v h1 h2 => iha j x v h1 h2 (pureL_get hp.1 h1)) (fun j x v h1 h2 => ihc j x v h1 h2 (pureL_get hp.2 h1))
  | ifc h ih => simp only [V.pure] at hp; exact .ifc (ih hp)
  | agg hl h ih => simp only [V.pure] at hp; exact .agg hl (fun j x v h1 h2 => ih j x v h1 h2 (pureL_get hp h1))
  | tup hl h ih => simp only [V.pure] at hp; exact .tup hl (fun j x v h1 h2 => ih j x v h1 h2 (pureL_get hp h1))
/-- A pure function: what hangs on no block that may be written comes to what hangs on none. -/
def Fn (E : Env) (f : FuncId) (args : List V) (r : V) : Prop := r.pure = true ∧ pureL args = true ∧ Call E f args ⟨0, []⟩ (fun r' _ => r' = r)
theorem Fn.calls {f : FuncId} {args : List V} {rv : V} (c : Fn E f args rv) {n : Nat} {b : Heap} {as : Array Value} (hH : HR U m n b w) (hV : VRs U m n w args as) :
    Calls E.P f as w fun e w' => ∃ R0 U', e = .returned R0 ∧ VR U' m n w' rv R0 ∧ Stp n U m n b w U' m n b w' ∧ HR U' m n b w' ∧ Same0 w w' := by
  obtain ⟨hp, hpa, c⟩ := c
  have hH0 : HR U (fun _ => none) 0 [] w := ⟨fun id blk h => by simp [lk] at h, fun id blk x h => by simp [lk] at h, fun id id' blk blk' x h => by simp [lk] at h, hH.ulow⟩
  refine (c U (fun _ => none) w as hH0 ⟨hV.len, fun j x v h1 h2 => (hV.at_ j x v h1 h2).elsewhere (pureL_get hpa h1)⟩).mono fun e w' ⟨r, R0, U', m', h', e1, q, hvr, hH', st⟩ => ?_
  subst q
  have hno : ∀ x, ¬ Own (fun _ => none) [] x := by rintro x ⟨id, bk, h1, _⟩; simp [lk] at h1
  have hs : Same0 w w' := fun x hx => st.keep x hx (hno x)
  have hU : ∀ x, U x → w'.heap[x]? = w.heap[x]? := fun x hx => hs x (hH.ulow x hx)
  -- the blocks that the caller has at hand are left out
  refine ⟨R0, U', e1, hvr.elsewhere hp, ?_, ?_, hs⟩
  · exact { hn := Nat.le_refl _, hm := fun _ _ => rfl, hU := st.hU, size := st.size, os := st.os, tape := st.tape, output := st.output, keep := fun x hx _ => hs x hx, own := fun _ _ h => h, lim := fun x hx h => (st.lim x hx h).elim .inl (fun h => absurd h (hno x)), hz := st.hz }
  · refine ⟨fun id blk h1 => ?_, fun id blk x h1 h2 => ?_, hH.inj, fun x hx => ?_⟩
    · obtain ⟨g1, g2⟩ := hH.live id blk h1
      exact ⟨g1, g2.mono st.hU hU st.hz (Nat.le_refl _) (fun _ _ => rfl) (fun x hx => hs x (hH.ok id blk x h1 hx).2)⟩
    · obtain ⟨g1, g2⟩ := hH.ok id blk x h1 h2
      exact ⟨fun hx => (st.lim x g2 hx).elim g1 (hno x), Nat.lt_of_lt_of_le g2 st.size⟩
    · exact hH'.ulow x hx
/-- A call of a pure function. -/
theorem TO.fn {f : FuncId} {xs : Array Operand} {ats : Array TypeId} {args vs : List V} {rv : V} (ho : o.op = .call { callee := .value (.func f), args := xs, argTypes := ats })
    (c : Fn E f args rv) (he : Enters E f) (hv : evL s xs.toList = some vs) (ha : AL vs args) (hg : o.guard = none) (hk : dstOk o.dst k = true) (t : TO E k B ops rest (putR o.dst rv s) h Q) : TO E k B ops (o :: rest) s h Q := fun U m a w r => by
  obtain ⟨as, h1, h2⟩ := call_run r ho he hv ha
  refine wpList_plain hg fun K hK => ?_
  unfold Oper.wp
  rw [h1, Oper.upon_enter]
  refine (c.calls r.heap h2).mono fun e w' ⟨R0, U', e1, hvr, st, hH, _⟩ => ?_
  subst e1
  have r1 := r.stp st hH
  exact hK _ _ (RP.step' (st.low r.base) (t _ _ _ _ (r1.putR hk hvr)))
end
end Go.Proofs.Ythkoinngmcpjgaa

/-
  Words for the logic's use. Conditions: none.
-/
namespace Go.Proofs.Ythkoinngmcpjgaa
open Go.RowKit

theorem info_of_run {P : Program} {t : TypeId} {i : TypeInfo} (h : ∀ w, (typeInfo t).run P w = .ok i w) : P.info? t = some i := by
  have h1 := h default
  unfold typeInfo at h1
  simp only [Sem.run_bind, program, Sem.run, Result.andThen_ok] at h1
  cases hi : P.info? t with
  | none => simp [hi] at h1
  | some j => simp [hi] at h1; rw [h1]
section
variable {E : Env} {k B : Nat} {s s' : Slots} {h h' : Hp} {Q Q' : Post} {o : Oper} {v : V} {d : Nat} {ops : Array Oper} {rest : List Oper}
theorem thenP_nI {n : Slots → Hp → Prop} (q : n s h) : thenP n Q .normal s h := q
theorem thenP_rI {n : Slots → Hp → Prop} (q : Q .ret s h) : thenP n Q .ret s h := q
theorem thenP_eI {n : Slots → Hp → Prop} {i : Nat} (q : Q (.exit i) s h) : thenP n Q (.exit i) s h := q
theorem thenP_gI {n : Slots → Hp → Prop} {i : Nat} (q : Q (.goto i) s h) : thenP n Q (.goto i) s h := q
theorem inB_nI {id : Nat} (q : Q .normal s h) : inBlockP id Q .normal s h := q
theorem inB_rI {id : Nat} (q : Q .ret s h) : inBlockP id Q .ret s h := q
theorem inB_eI {id : Nat} (q : Q .normal s h) : inBlockP id Q (.exit id) s h := by simp only [inBlockP, if_true]; exact q
theorem inB_neI {id i : Nat} (hn : Nat.beq i id = false) (q : Q (.exit i) s h) : inBlockP id Q (.exit i) s h := by simp only [inBlockP, if_neg (ne_of_beq hn)]; exact q
theorem TO.y {ρ : Bool} (y : Yl ρ E k B s h o v) (hd : o.dst = some d) (hk : Nat.blt d k = true) (hg : o.guard = none) (t : TO E k B ops rest ((d, v) :: s) h Q) : TO E k B ops (o :: rest) s h Q := TO.yl hg hd hk y t
theorem TO.a {g : Bool} (y : Ac E k B g s h o s' h') (hg : o.guard = none) (t : TO E k B ops rest s' h' Q) : TO E k B ops (o :: rest) s h Q := TO.ac hg y t
/-- A guard of which nothing is known. -/
theorem TO.split {j dj : Nat} {want b : Bool} (hg : o.guard = some (j, want)) (hd : o.dst = some d) (hk : Nat.blt d k = true) (hj : yieldSlot ops j = some dj) (hb : lk s dj = some (vb b))
    (ht : b = want → TO E k B ops ({ o with guard := none } :: rest) s h Q) (hf : b = (!want) → TO E k B ops rest ((d, .un) :: s) h Q) : TO E k B ops (o :: rest) s h Q := by
  by_cases hw : b = want
  · exact TO.open hg hj hb hw (ht hw)
  · have : b = !want := by cases b <;> cases want <;> simp_all
    exact TO.shut hg hd hk hj hb this (hf this)
theorem Fn.of {f : FuncId} {args : List V} {r : V} (hp : r.pure = true) (ha : pureL args = true) (c : Call E f args ⟨0, []⟩ (fun r' _ => r' = r)) : Fn E f args r := ⟨hp, ha, c⟩
theorem dyn_run {U : Nat → Prop} {m : Nat → Option Nat} {a : Act} {w : World} {f : FuncId} {t : Nat} {xs : Array Operand} {ats : Array TypeId} {args vs fi ca : List V} (r : SR k B U m s h a w) (ho : o.op = .call { callee := .value (.tmp t), args := xs, argTypes := ats }) (he : Enters E f) (hf : lk s t = some (.fn f fi ca)) (hv : evL s xs.toList = some vs) (ha : AL (fi ++ vs ++ ca) args) :
    ∃ as, (execOp a.eval o).run E.P w = .ok (.enter f as) w ∧ VRs U m h.n w args as := by
  have h1 := r.tmp hf
  generalize hfe : a.eval (.tmp t) = fv at h1
  cases h1 with | @fn _ _ _ as cs la lc h2 h3 =>
  have h4 := evL_ok r xs.toList vs hv
  refine ⟨as ++ xs.map a.eval ++ cs, ?_, ?_⟩
  · have e : (execOp a.eval o).run E.P w = (callFunc f (as ++ xs.map a.eval ++ cs)).run E.P w := by
      simp only [execOp, ho, resolve, hfe, Deferred.ofValue, Sem.run_bind, Sem.run_pure, Result.andThen_ok, invoke]
    rw [e]; exact he _ w
  · refine VRs.le (l := fi ++ vs ++ ca) ⟨?_, fun j x v hx hv => ?_⟩ ha
    · have := h4.len; simp only [List.size_toArray, List.length_map, Array.length_toList] at this
      simp only [List.length_append, Array.size_append, Array.size_map, la, lc, this]
    · have e1 := h4.len
      simp only [List.size_toArray, List.length_map, Array.length_toList] at e1
      rcases get_append3' hx with ⟨a1, a2⟩ | ⟨a1, a2, a3⟩ | ⟨a1, a2⟩
      · refine h2 j x v a2 ?_
        rw [Array.append_assoc, Array.getElem?_append_left (by omega)] at hv; exact hv
      · refine h4.at_ (j - fi.length) x v a3 ?_
        rw [Array.append_assoc, Array.getElem?_append_right (by omega), Array.getElem?_append_left (by simp only [Array.size_map]; omega)] at hv
        rw [← la] at hv
        rwa [show (xs.toList.map a.eval).toArray = xs.map a.eval by rw [← Array.toList_map]]
      · refine h3 (j - (fi.length + vs.length)) x v a2 ?_
        rw [Array.append_assoc, Array.getElem?_append_right (by omega), Array.getElem?_append_right (by simp only [Array.size_map]; omega)] at hv
        rw [show j - (fi.length + vs.length) = j - as.size - (xs.map a.eval).size by simp only [Array.size_map]; omega]
        exact hv
theorem dyn_run0 {U : Nat → Prop} {m : Nat → Option Nat} {a : Act} {w : World} {f : FuncId} {t : Nat} {xs : Array Operand} {ats : Array TypeId} {args vs : List V} (r : SR k B U m s h a w) (ho : o.op = .call { callee := .value (.tmp t), args := xs, argTypes := ats }) (he : Enters E f) (hf : lk s t = some (.d (.fn f))) (hv : evL s xs.toList = some vs) (ha : AL vs args) :
    ∃ as, (execOp a.eval o).run E.P w = .ok (.enter f as) w ∧ VRs U m h.n w args as := by
  have h1 := r.tmp hf
  generalize hfe : a.eval (.tmp t) = fv at h1
  cases h1 with | d h1 =>
  cases h1
  refine ⟨xs.map a.eval, ?_, ?_⟩
  · have e : (execOp a.eval o).run E.P w = (callFunc f (#[] ++ xs.map a.eval ++ #[])).run E.P w := by
      simp only [execOp, ho, resolve, hfe, Deferred.ofValue, Sem.run_bind, Sem.run_pure, Result.andThen_ok, invoke]
    rw [e, Array.empty_append, Array.append_empty]; exact he _ w
  · have := (evL_ok r xs.toList vs hv).le ha
    rwa [show (xs.toList.map a.eval).toArray = xs.map a.eval by rw [← Array.toList_map]] at this
/-- A call of a function value. -/
theorem TO.dyn {f : FuncId} {t : Nat} {xs : Array Operand} {ats : Array TypeId} {args vs : List V} {R : V → Hp → Prop} (ho : o.op = .call { callee := .value (.tmp t), args := xs, argTypes := ats }) (hf : lk s t = some (.d (.fn f)))
    (c : Call E f args h R) (he : Enters E f) (hv : evL s xs.toList = some vs) (ha : AL vs args) (hg : o.guard = none) (hk : dstOk o.dst k = true) (t : ∀ r h', R r h' → TO E k B ops rest (putR o.dst r s) h' Q) : TO E k B ops (o :: rest) s h Q := fun U m a w r => by
  obtain ⟨as, h1, h2⟩ := dyn_run0 r ho he hf hv ha
  refine wpList_plain hg fun K hK => ?_
  unfold Oper.wp
  rw [h1, Oper.upon_enter]
  refine (c U m w as r.heap h2).mono fun e w' ⟨rv, R0, U', m', h', e1, q, hvr, hH, st⟩ => ?_
  subst e1
  have r1 := r.stp st hH
  exact hK _ _ (RP.step' (st.low r.base) (t rv h' q _ _ _ _ (r1.putR hk hvr)))
theorem TO.dynC {f : FuncId} {t : Nat} {xs : Array Operand} {ats : Array TypeId} {args vs fi ca : List V} {R : V → Hp → Prop} (ho : o.op = .call { callee := .value (.tmp t), args := xs, argTypes := ats }) (hf : lk s t = some (.fn f fi ca))
    (c : Call E f args h R) (he : Enters E f) (hv : evL s xs.toList = some vs) (ha : AL (fi ++ vs ++ ca) args) (hg : o.guard = none) (hk : dstOk o.dst k = true) (t : ∀ r h', R r h' → TO E k B ops rest (putR o.dst r s) h' Q) : TO E k B ops (o :: rest) s h Q := fun U m a w r => by
  obtain ⟨as, h1, h2⟩ := dyn_run r ho he hf hv ha
  refine wpList_plain hg fun K hK => ?_
  unfold Oper.wp
  rw [h1, Oper.upon_enter]
  refine (c U m w as r.heap h2).mono fun e w' ⟨rv, R0, U', m', h', e1, q, hvr, hH, st⟩ => ?_
  subst e1
  have r1 := r.stp st hH
  exact hK _ _ (RP.step' (st.low r.base) (t rv h' q _ _ _ _ (r1.putR hk hvr)))
/-- A pure function's call, in any state. -/
theorem Fn.call {f : FuncId} {args : List V} {r : V} (c : Fn E f args r) : Call E f args h (fun r' h' => r' = r ∧ h' = h) := fun U m w as hH hV =>
  (c.calls hH hV).mono fun e w' ⟨R0, U', e1, hvr, st, hH', _⟩ => ⟨r, R0, U', m, h, e1, ⟨rfl, rfl⟩, hvr, hH', st⟩
end
end Go.Proofs.Ythkoinngmcpjgaa

/-
  The logic's reckoner: many operations at once, those whose outcome is told by their operands' forms. Conditions: none.
-/
namespace Go.Proofs.Ythkoinngmcpjgaa
open Go.RowKit

def dropN {α : Type} : Nat → List α → Option (List α)
  | 0, l => some l
  | _ + 1, [] => none
  | n + 1, _ :: r => dropN n r
def takeN {α : Type} : Nat → List α → Option (List α)
  | 0, _ => some []
  | _ + 1, [] => none
  | n + 1, x :: r => match takeN n r with
    | some l => some (x :: l)
    | none => none
theorem dropN_ok {α : Type} : ∀ {n : Nat} {l r : List α}, dropN n l = some r → l.drop n = r ∧ n ≤ l.length
  | 0, l, r, h => by simp only [dropN, Option.some.injEq] at h; subst h; simp
  | n + 1, [], r, h => by simp [dropN] at h
  | n + 1, x :: l, r, h => by
    obtain ⟨h1, h2⟩ := dropN_ok (n := n) (l := l) (by simpa [dropN] using h)
    exact ⟨by simpa using h1, by simp; omega⟩
theorem takeN_ok {α : Type} : ∀ {n : Nat} {l r : List α}, takeN n l = some r → l.take n = r ∧ r.length = n
  | 0, l, r, h => by simp only [takeN, Option.some.injEq] at h; subst h; simp
  | n + 1, [], r, h => by simp [takeN] at h
  | n + 1, x :: l, r, h => by
    simp only [takeN] at h
    split at h
    · rename_i l' h1
      injection h with h; subst h
      obtain ⟨h2, h3⟩ := takeN_ok h1
      exact ⟨by simp [h2], by simp [h3]⟩
    · cases h
def mapD : List D → List V
  | [] => []
  | x :: r => .d x :: mapD r
theorem mapD_eq (l : List D) : mapD l = l.map .d := by
  induction l with
  | nil => rfl
  | cons x r ih => simp only [mapD, ih, List.map_cons]
/-- A value made of cells. -/
def mkV : Bool → List V → Option V
  | true, l => some (.agg l)
  | false, [c] => some c
  | false, _ => none
theorem mkV_ok {g : Bool} {l : List V} {v : V} (h : mkV g l = some v) : mk g l = v := by
  unfold mkV at h
  split at h
  · simp only [Option.some.injEq] at h; subst h; rfl
  · simp only [Option.some.injEq] at h; subst h; rfl
  · cases h
def nsize (g : Bool) (z : Nat) : Nat := match g with | true => z | false => 1
theorem nsize_eq (g : Bool) (z : Nat) : nsize g z = bif g then z else 1 := by cases g <;> rfl
def loadF (tab : List (Nat × Ty)) (b : Heap) (t : Nat) : V → Option V
  | .ptr id off => match lk tab t, lk b id with
    | some ty, some (some (.cells cs)) => match dropN off cs with
      | some r => match takeN (nsize (aggD ty.d) ty.size) r with
        | some l => mkV (aggD ty.d) l
        | none => none
      | none => none
    | some ty, some (some (.dat cs)) => match dropN off cs with
      | some r => match takeN (nsize (aggD ty.d) ty.size) r with
        | some l => mkV (aggD ty.d) (mapD l)
        | none => none
      | none => none
    | _, _ => none
  | .d (.lptr cs) => match lk tab t with
    | some ty => match takeN (nsize (aggD ty.d) ty.size) cs with
      | some l => mkV (aggD ty.d) (mapD l)
      | none => none
    | none => none
  | _ => none
def fieldsOf : TypeDesc → Option (List Field)
  | .struct fs => some fs.toList
  | _ => none
def getN {α : Type} : List α → Nat → Option α
  | [], _ => none
  | x :: _, 0 => some x
  | _ :: r, n + 1 => getN r n
theorem getN_eq {α : Type} : ∀ (l : List α) (n : Nat), getN l n = l[n]?
  | [], n => by simp [getN]
  | x :: r, 0 => by simp [getN]
  | x :: r, n + 1 => by simp only [getN, List.getElem?_cons_succ]; exact getN_eq r n
def fieldAddrF (tab : List (Nat × Ty)) (t i : Nat) (v : V) : Option V :=
  match lk tab t with
  | some ty => match fieldsOf ty.d with
    | some fs => match getN fs i with
      | some f => match lk tab f.type with
        | some tf => match tf.size with
          | 0 => none
          | _ + 1 => match v with
            | .ptr id off => some (.ptr id (off + f.offset))
            | .d (.lptr cs) => match dropN f.offset cs with
              | some r => some (.d (.lptr r))
              | none => none
            | _ => none
        | none => none
      | none => none
    | none => none
  | none => none
def fieldF (tab : List (Nat × Ty)) (t i : Nat) (v : V) : Option V :=
  match lk tab t with
  | some ty => match fieldsOf ty.d with
    | some fs => match getN fs i with
      | some f => match lk tab f.type with
        | some tf => match nsize (aggD tf.d) tf.size with
          | 0 => none
          | n + 1 => match v with
            | .agg cs => match dropN f.offset cs with
              | some r => match takeN (n + 1) r with
                | some l => mkV (aggD tf.d) l
                | none => none
              | none => none
            | _ => none
        | none => none
      | none => none
    | none => none
  | none => none
def binF : BinOp → V → V → Option V
  | .lss, .d (.int .i64 a), .d (.int .i64 b) => some (vb (decide (a < b)))
  | .leq, .d (.int .i64 a), .d (.int .i64 b) => some (vb (decide (a ≤ b)))
  | .gtr, .d (.int .i64 a), .d (.int .i64 b) => some (vb (decide (b < a)))
  | .geq, .d (.int .i64 a), .d (.int .i64 b) => some (vb (decide (b ≤ a)))
  | .eql, .d (.int .i64 a), .d (.int .i64 b) => some (vb (decide (a = b)))
  | .neq, .d (.int .i64 a), .d (.int .i64 b) => some (vb (!decide (a = b)))
  | _, _, _ => none
def lenF (tab : List (Nat × Ty)) (t : Nat) (v : V) : Option V :=
  match lk tab t with
  | some ty => match ty.d, v with
    | .slice _, .d (.lst n _) => some (vi n)
    | .slice _, .d .nsl => some (vi 0)
    | .slice _, .sl _ _ _ n => some (vi n)
    | .string, .d (.str b) => some (vi b.size)
    | _, _ => none
  | none => none
/-- What an operation yields, if its operands' forms tell it. -/
def yieldF (tab : List (Nat × Ty)) (s : Slots) (b : Heap) : Op → Option V
  | .move x => evO s x
  | .assign x => evO s x
  | .load t x => match evO s x with | some v => loadF tab b t v | none => none
  | .fieldAddr t x i => match evO s x with | some v => fieldAddrF tab t i v | none => none
  | .field t x i => match evO s x with | some v => fieldF tab t i v | none => none
  | .binOp op _ x y _ => match evO s x, evO s y with | some v, some u => binF op v u | _, _ => none
  | .unOp .not _ x => match evO s x with | some (.d (.bool c)) => some (vb (!c)) | _ => none
  | .extract x i => match evO s x with | some (.tup vs) => getN vs i | _ => none
  | .call { callee := .builtin .len, args := ⟨[x]⟩, argTypes := ⟨t :: _⟩ } => match evO s x with | some v => lenF tab t v | none => none
  | _ => none

section
variable {E : Env} {k B : Nat} {s s' : Slots} {h h' : Hp} {Q Q' : Post} {o : Oper} {v : V} {d : Nat} {ops : Array Oper} {rest : List Oper} {ρ : Bool}
theorem loadF_ok {t : TypeId} {x : Operand} {u : V} (ho : o.op = .load t x) (hx : evO s x = some u) (h1 : loadF E.tab h.b t u = some v) : Yl true E k B s h o v := by
  unfold loadF at h1
  split at h1
  · split at h1
    · rename_i ty cs ht hb
      split at h1
      · rename_i r hr
        split at h1
        · rename_i l hl
          obtain ⟨e1, _⟩ := dropN_ok hr
          obtain ⟨e2, e3⟩ := takeN_ok hl
          rw [nsize_eq] at e2 e3
          obtain ⟨td, tz, tb, tr⟩ := ty
          rw [← mkV_ok h1]
          exact Yl.load ho ht hx hb (by rw [e1]; exact e2) (by rw [e3]; exact Nat.beq_refl _)
        · cases h1
      · cases h1
    · rename_i ty cs ht hb
      split at h1
      · rename_i r hr
        split at h1
        · rename_i l hl
          obtain ⟨e1, _⟩ := dropN_ok hr
          obtain ⟨e2, e3⟩ := takeN_ok hl
          rw [nsize_eq] at e2 e3
          obtain ⟨td, tz, tb, tr⟩ := ty
          rw [← mkV_ok h1, mapD_eq]
          exact Yl.loadD ho ht hx hb (by rw [e1]; exact e2) (by rw [e3]; exact Nat.beq_refl _)
        · cases h1
      · cases h1
    · cases h1
  · split at h1
    · rename_i ty ht
      split at h1
      · rename_i l hl
        obtain ⟨e2, e3⟩ := takeN_ok hl
        rw [nsize_eq] at e2 e3
        obtain ⟨td, tz, tb, tr⟩ := ty
        rw [← mkV_ok h1, mapD_eq]
        exact Yl.loadL ho ht hx e2 (by rw [e3]; exact Nat.beq_refl _)
      · cases h1
    · cases h1
  · cases h1
theorem fieldsOf_ok {d : TypeDesc} {l : List Field} (h : fieldsOf d = some l) : ∃ fs : Array Field, d = .struct fs ∧ fs.toList = l := by
  cases d <;> simp [fieldsOf] at h
  exact ⟨_, rfl, h⟩
theorem fieldAddrF_ok {t : TypeId} {i : Nat} {x : Operand} {u : V} (ho : o.op = .fieldAddr t x i) (hx : evO s x = some u) (h1 : fieldAddrF E.tab t i u = some v) : Yl ρ E k B s h o v := by
  unfold fieldAddrF at h1
  split at h1
  · rename_i ty ht
    split at h1
    · rename_i fs hfs
      obtain ⟨fa, e1, e2⟩ := fieldsOf_ok hfs
      split at h1
      · rename_i f hf
        rw [getN_eq] at hf
        have hf' : fa[i]? = some f := by rw [← Array.getElem?_toList, e2]; exact hf
        split at h1
        · rename_i tf htf
          obtain ⟨td, tz, tb, tr⟩ := ty
          obtain ⟨fd, fz, fb, fr⟩ := tf
          dsimp only at *
          split at h1
          · cases h1
          · have hz : Nat.beq (Nat.succ ‹Nat›) 0 = false := rfl
            split at h1
            · injection h1 with h1; subst h1
              exact Yl.fieldAddr ho ht e1 hf' htf hz hx
            · split at h1
              · rename_i r hr
                injection h1 with h1; subst h1
                obtain ⟨e3, _⟩ := dropN_ok hr
                rw [← e3]
                exact Yl.fieldAddrL ho ht e1 hf' htf hz hx
              · cases h1
            · cases h1
        · cases h1
      · cases h1
    · cases h1
  · cases h1
theorem fieldF_ok {t : TypeId} {i : Nat} {x : Operand} {u : V} (ho : o.op = .field t x i) (hx : evO s x = some u) (h1 : fieldF E.tab t i u = some v) : Yl ρ E k B s h o v := by
  unfold fieldF at h1
  split at h1
  · rename_i ty ht
    split at h1
    · rename_i fs hfs
      obtain ⟨fa, e1, e2⟩ := fieldsOf_ok hfs
      split at h1
      · rename_i f hf
        rw [getN_eq] at hf
        have hf' : fa[i]? = some f := by rw [← Array.getElem?_toList, e2]; exact hf
        split at h1
        · rename_i tf htf
          obtain ⟨td, tz, tb, tr⟩ := ty
          obtain ⟨fd, fz, fb, fr⟩ := tf
          dsimp only at *
          split at h1
          · cases h1
          · rename_i n hn
            rw [nsize_eq] at hn
            split at h1
            · split at h1
              · rename_i r hr
                split at h1
                · rename_i l hl
                  obtain ⟨e3, _⟩ := dropN_ok hr
                  obtain ⟨e4, e5⟩ := takeN_ok hl
                  have hn' : n + 1 = bif aggD fd then fz else 1 := hn.symm
                  rw [hn'] at e4 e5
                  rw [← mkV_ok h1]
                  exact Yl.field ho ht e1 hf' htf (by rw [hn]; rfl) hx (by rw [e3]; exact e4) (by rw [e5]; exact Nat.beq_refl _)
                · cases h1
              · cases h1
            · cases h1
        · cases h1
      · cases h1
    · cases h1
  · cases h1
theorem binF_ok {op : BinOp} {t t2 : TypeId} {x y : Operand} {a b : V} (ho : o.op = .binOp op t x y t2) (hx : evO s x = some a) (hy : evO s y = some b) (h1 : binF op a b = some v) : Yl ρ E k B s h o v := by
  unfold binF at h1
  split at h1 <;> first
    | (injection h1 with h1; subst h1; first | exact Yl.lss ho hx hy | exact Yl.leq ho hx hy | exact Yl.gtr ho hx hy | exact Yl.geq ho hx hy | exact Yl.eql ho hx hy | exact Yl.neq ho hx hy)
    | cases h1
theorem lenF_ok {t : TypeId} {x : Operand} {u : V} {ats : Array TypeId} (ho : o.op = .call { callee := .builtin .len, args := #[x], argTypes := ats }) (ha : ats[0]? = some t) (hx : evO s x = some u) (h1 : lenF E.tab t u = some v) : Yl ρ E k B s h o v := by
  unfold lenF at h1
  split at h1
  · rename_i ty ht
    obtain ⟨td, tz, tb, tr⟩ := ty
    dsimp only at h1
    split at h1
    · injection h1 with h1; subst h1; exact Yl.lenL ho ha ht rfl hx
    · injection h1 with h1; subst h1; exact Yl.lenN ho ha ht rfl hx
    · injection h1 with h1; subst h1; exact Yl.lenS ho ha ht rfl hx
    · injection h1 with h1; subst h1; exact Yl.lenStr ho ha ht rfl hx
    · cases h1
  · cases h1
theorem yieldF_ok (h1 : yieldF E.tab s h.b o.op = some v) : Yl true E k B s h o v := by
  generalize ho : o.op = p at h1
  unfold yieldF at h1
  split at h1
  · exact Yl.move ho h1
  · exact Yl.assign ho h1
  · split at h1
    · rename_i hx; exact loadF_ok ho hx h1
    · cases h1
  · split at h1
    · rename_i hx; exact fieldAddrF_ok ho hx h1
    · cases h1
  · split at h1
    · rename_i hx; exact fieldF_ok ho hx h1
    · cases h1
  · split at h1
    · rename_i hx hy; exact binF_ok ho hx hy h1
    · cases h1
  · split at h1
    · rename_i hx; injection h1 with h1; subst h1; exact Yl.not ho hx
    · cases h1
  · split at h1
    · rename_i hx; rw [getN_eq] at h1; exact Yl.extract ho hx h1
    · cases h1
  · split at h1
    · rename_i hx; exact lenF_ok ho (by simp) hx h1
    · cases h1
  · cases h1
/-- One operation, or none. -/
def stepF (tab : List (Nat × Ty)) (k : Nat) (o : Oper) (s : Slots) (b : Heap) : Option Slots :=
  match o.guard, o.dst with
  | none, some d => match Nat.blt d k with
    | true => match yieldF tab s b o.op with
      | some v => some ((d, v) :: s)
      | none => none
    | false => none
  | _, _ => none
/-- As many as there are. -/
def runF (tab : List (Nat × Ty)) (k : Nat) (b : Heap) : List Oper → Slots → List Oper × Slots
  | [], s => ([], s)
  | o :: r, s => match stepF tab k o s b with
    | some s' => runF tab k b r s'
    | none => (o :: r, s)
theorem TO.run (l : List Oper) {l' : List Oper} {s' : Slots} (hr : runF E.tab k h.b l s = (l', s')) (t : TO E k B ops l' s' h Q) : TO E k B ops l s h Q := by
  induction l generalizing s with
  | nil =>
    simp only [runF, Prod.mk.injEq] at hr
    obtain ⟨rfl, rfl⟩ := hr
    exact t
  | cons o r ih =>
    simp only [runF] at hr
    split at hr
    · rename_i s2 h2
      unfold stepF at h2
      split at h2
      · rename_i d hg hd
        split at h2
        · rename_i hk
          split at h2
          · rename_i v hv
            injection h2 with h2; subst h2
            exact TO.yl hg hd hk (yieldF_ok hv) (ih hr)
          · cases h2
        · cases h2
      · cases h2
    · simp only [Prod.mk.injEq] at hr
      obtain ⟨rfl, rfl⟩ := hr
      exact t
/-- The first one at least. -/
theorem TO.run1 {s1 : Slots} (h1 : stepF E.tab k o s h.b = some s1) {l' : List Oper} {s' : Slots} (hr : runF E.tab k h.b rest s1 = (l', s')) (t : TO E k B ops l' s' h Q) : TO E k B ops (o :: rest) s h Q := by
  refine TO.run (o :: rest) ?_ t
  simp only [runF, h1, hr]
end
end Go.Proofs.Ythkoinngmcpjgaa
