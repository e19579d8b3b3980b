/-
  A logic over symbolic states: values, blocks and frames as plain data, and what they tell of the real ones. Conditions: none.
-/
import Derived.WalkKit
import Derived.ProofKit
import Derived.Below
import Derived.Calls
set_option linter.unusedVariables false
set_option linter.unusedSimpArgs false
set_option maxRecDepth 20000
namespace Go.Proofs.Ytmgckodihnmjoaa
open Go.RowKit

/-- Data: what hangs on no block that may be written. `lst`: a slice whose cells nobody writes any more; `rows`: the same, told element by element; `lptr`: a pointer to such cells. -/
inductive D where
  | bool (b : Bool)
  | int (k : IntKind) (n : Int)
  | str (s : ByteArray)
  | lst (n : Nat) (cs : List D)
  | rows (n e : Nat) (f : Nat → List D)
  | nsl
  | lptr (cs : List D)
  | nilp
  | nmap
  | fn (f : FuncId)
  | nfn
  | nifc
  deriving Inhabited

/-- A symbolic value. `sl`: a slice of a block that is at hand (e: the cells of an element); `ptr`: into such a block; `el`: to cell r of element i of such a row. -/
inductive V where
  | un
  | d (x : D)
  | sl (e id off len : Nat)
  | ptr (id off : Nat)
  | el (e id i r : Nat)
  | map (id : Nat)
  | fn (f : FuncId) (a c : List V)
  | ifc (t : TypeId) (v : V)
  | agg (cs : List V)
  | tup (vs : List V)
  deriving Inhabited

abbrev vi (n : Int) : V := .d (.int .i64 n)
abbrev vb (b : Bool) : V := .d (.bool b)

theorem cell_of_block {w w' : World} {ad : Addr} {v : Value} (h : w'.heap[ad.block]? = w.heap[ad.block]?) (hc : w.cell? ad = some v) : w'.cell? ad = some v := by
  unfold World.cell? at *; rw [h]; exact hc
theorem add_block (ad : Addr) (j : Nat) : (ad.add j).block = ad.block := by unfold Addr.add; split <;> rfl

/-- A number that its kind holds. -/
def inR (k : IntKind) (i : Int) : Prop := k.min ≤ i ∧ i ≤ k.max
/-- Elements, one behind the other. -/
def flatN {α : Type} (n : Nat) (f : Nat → List α) : List α := (List.range n).flatMap f
/-- What data tell of a real value. U: the blocks that nobody writes. -/
inductive DR (U : Nat → Prop) (w : World) : D → Value → Prop where
  | bool (b : Bool) : DR U w (.bool b) (.bool b)
  | int (k : IntKind) (i : Int) (h : inR k i) : DR U w (.int k i) (.int k i)
  | str (s : ByteArray) (h : s.size ≤ maxLen) : DR U w (.str s) (.string s)
  | lst {k : Nat} {cs : List D} {A : Option Addr} {cap : Nat} (f : Nat → Value) (hk : k ≤ cap) (hc : cap ≤ maxLen)
      (ha : ∀ j, j < cs.length → ∃ ad, A = some ad ∧ U ad.block ∧ w.cell? (ad.add j) = some (f j))
      (hv : ∀ (j : Nat) (c : D), cs[j]? = some c → DR U w c (f j)) : DR U w (.lst k cs) (.slice A k cap)
  | rows {n e : Nat} {f : Nat → List D} {r : Value} (hl : ∀ i, i < n → (f i).length = e) (h : DR U w (.lst n (flatN n f)) r) : DR U w (.rows n e f) r
  | nsl : DR U w .nsl (.slice none 0 0)
  | lptr {cs : List D} {ad : Addr} (f : Nat → Value) (hu : U ad.block) (ha : ∀ j, j < cs.length → w.cell? (ad.add j) = some (f j))
      (hv : ∀ (j : Nat) (c : D), cs[j]? = some c → DR U w c (f j)) : DR U w (.lptr cs) (.pointer (some ad))
  | nilp : DR U w .nilp (.pointer none)
  | nmap : DR U w .nmap (.map none)
  | fn (f : FuncId) : DR U w (.fn f) (.func (.func f) #[] #[])
  | nfn : DR U w .nfn .nilFunc
  | nifc : DR U w .nifc .nilIface

theorem DR.mono {U U' : Nat → Prop} {w w' : World} (hU : ∀ x, U x → U' x) (hw : ∀ x, U x → w'.heap[x]? = w.heap[x]?) {v : D} {r : Value} (h : DR U w v r) : DR U' w' v r := by
  induction h with
  | bool b => exact .bool b
  | int k i h => exact .int k i h
  | str s h => exact .str s h
  | lst f hk hc ha hv ih =>
    refine .lst f hk hc (fun j hj => ?_) ih
    obtain ⟨ad, h1, h2, h3⟩ := ha j hj
    exact ⟨ad, h1, hU _ h2, cell_of_block (by rw [add_block]; exact hw _ h2) h3⟩
  | rows hl h ih => exact .rows hl ih
  | nsl => exact .nsl
  | lptr f hu ha hv ih => exact .lptr f (hU _ hu) (fun j hj => cell_of_block (by rw [add_block]; exact hw _ hu) (ha j hj)) ih
  | nilp => exact .nilp
  | nmap => exact .nmap
  | fn f => exact .fn f
  | nfn => exact .nfn
  | nifc => exact .nifc
theorem DR.nil_lst {U : Nat → Prop} {w : World} {r : Value} (h : DR U w .nsl r) : DR U w (.lst 0 []) r := by
  cases h
  exact .lst (fun _ => undef) (Nat.le_refl _) (by unfold maxLen; omega) (fun j hj => by simp at hj) (fun j c hj => by simp at hj)

/-- A block's size. -/
def BSize (w : World) (x z : Nat) : Prop := ∃ (arr : Array Value) (t : TypeId) (f : Nat × Nat), w.heap[x]? = some (.cells arr t f) ∧ arr.size = z

/-- What a symbolic value tells of a real one. m: where the blocks at hand lie (none: a row without a block yet); n: names below it have been given. -/
inductive VR (U : Nat → Prop) (m : Nat → Option Nat) (n : Nat) (w : World) : V → Value → Prop where
  | un (v : Value) : VR U m n w .un v
  | d {x : D} {v : Value} (h : DR U w x v) : VR U m n w (.d x) v
  | sl {e id off k x cap z : Nat} (hid : id < n) (hm : m id = some x) (hk : k ≤ cap) (hc : cap ≤ maxLen) (hz : BSize w x z) (hs : off + cap * e ≤ z) : VR U m n w (.sl e id off k) (.slice (some ⟨x, off, none⟩) k cap)
  | sl0 {e id off : Nat} (hid : id < n) (hm : m id = none) : VR U m n w (.sl e id off 0) (.slice none 0 0)
  | ptr {id off x : Nat} (hid : id < n) (hm : m id = some x) : VR U m n w (.ptr id off) (.pointer (some ⟨x, off, none⟩))
  | el {e id i j x : Nat} (hid : id < n) (hm : m id = some x) : VR U m n w (.el e id i j) (.pointer (some ⟨x, i * e + j, none⟩))
  | map {id x : Nat} (hid : id < n) (hm : m id = some x) : VR U m n w (.map id) (.map (some x))
  | fn {f : FuncId} {a c : List V} {as cs : Array Value} (la : a.length = as.size) (lc : c.length = cs.size)
      (ha : ∀ (j : Nat) (x : V) (v : Value), a[j]? = some x → as[j]? = some v → VR U m n w x v)
      (hc : ∀ (j : Nat) (x : V) (v : Value), c[j]? = some x → cs[j]? = some v → VR U m n w x v) : VR U m n w (.fn f a c) (.func (.func f) as cs)
  | ifc {t : TypeId} {v : V} {r : Value} (h : VR U m n w v r) : VR U m n w (.ifc t v) (.iface t r)
  | agg {cs : List V} {vs : Array Value} (hl : cs.length = vs.size) (h : ∀ (j : Nat) (c : V) (v : Value), cs[j]? = some c → vs[j]? = some v → VR U m n w c v) : VR U m n w (.agg cs) (.agg vs)
  | tup {cs : List V} {vs : Array Value} (hl : cs.length = vs.size) (h : ∀ (j : Nat) (c : V) (v : Value), cs[j]? = some c → vs[j]? = some v → VR U m n w c v) : VR U m n w (.tup cs) (.tuple vs)

theorem VR.mono {U U' : Nat → Prop} {m m' : Nat → Option Nat} {n n' : Nat} {w w' : World} (hU : ∀ x, U x → U' x) (hw : ∀ x, U x → w'.heap[x]? = w.heap[x]?) (hz : ∀ x z, BSize w x z → BSize w' x z) (hn : n ≤ n') (hm : ∀ i, i < n → m' i = m i)
    {v : V} {r : Value} (h : VR U m n w v r) : VR U' m' n' w' v r := by
  induction h with
  | un v => exact .un v
  | d h => exact .d (h.mono hU hw)
  | sl hid hx hk hc h1 h2 => exact .sl (by omega) (by rw [hm _ hid]; exact hx) hk hc (hz _ _ h1) h2
  | sl0 hid hx => exact .sl0 (by omega) (by rw [hm _ hid]; exact hx)
  | ptr hid hx => exact .ptr (by omega) (by rw [hm _ hid]; exact hx)
  | el hid hx => exact .el (by omega) (by rw [hm _ hid]; exact hx)
  | map hid hx => exact .map (by omega) (by rw [hm _ hid]; exact hx)
  | fn la lc ha hc iha ihc => exact .fn la lc iha ihc
  | ifc h ih => exact .ifc ih
  | agg hl h ih => exact .agg hl ih
  | tup hl h ih => exact .tup hl ih

mutual
/-- A value names a block at hand. -/
def V.has (i : Nat) : V → Bool
  | .sl _ id _ _ => Nat.beq id i
  | .ptr id _ => Nat.beq id i
  | .el _ id _ _ => Nat.beq id i
  | .map id => Nat.beq id i
  | .fn _ a c => hasL i a || hasL i c
  | .ifc _ v => v.has i
  | .agg cs => hasL i cs
  | .tup vs => hasL i vs
  | .un => false
  | .d _ => false
def hasL (i : Nat) : List V → Bool
  | [] => false
  | v :: r => v.has i || hasL i r
end
theorem hasL_get {i : Nat} {l : List V} (h : hasL i l = false) {j : Nat} {v : V} (hj : l[j]? = some v) : v.has i = false := by
  induction l generalizing j with
  | nil => simp at hj
  | cons x r ih =>
    simp only [hasL, Bool.or_eq_false_iff] at h
    cases j with
    | zero => simp at hj; subst hj; exact h.1
    | succ j => exact ih h.2 (by simpa using hj)
theorem ne_of_beq {a b : Nat} (h : Nat.beq a b = false) : a ≠ b := by
  rintro rfl; rw [Nat.beq_refl] at h; cases h
/-- A block lies elsewhere: what doesn't name it stays. -/
theorem VR.remap {U : Nat → Prop} {m m' : Nat → Option Nat} {n : Nat} {w : World} {i : Nat} (hm : ∀ j, j ≠ i → m' j = m j) {v : V} {r : Value} (h : VR U m n w v r) (hv : v.has i = false) : VR U m' n w v r := by
  induction h with
  | un v => exact .un v
  | d h => exact .d h
  | sl hid hx hk hc h1 h2 => exact .sl hid (by rw [hm _ (ne_of_beq (by simpa [V.has] using hv))]; exact hx) hk hc h1 h2
  | sl0 hid hx => exact .sl0 hid (by rw [hm _ (ne_of_beq (by simpa [V.has] using hv))]; exact hx)
  | ptr hid hx => exact .ptr hid (by rw [hm _ (ne_of_beq (by simpa [V.has] using hv))]; exact hx)
  | el hid hx => exact .el hid (by rw [hm _ (ne_of_beq (by simpa [V.has] using hv))]; exact hx)
  | map hid hx => exact .map hid (by rw [hm _ (ne_of_beq (by simpa [V.has] using hv))]; exact hx)
  | fn la lc ha hc iha ihc =>
    simp only [V.has, Bool.or_eq_false_iff] at hv
    exact .fn la lc (fun j x v h1 h2 => iha j x v h1 h2 (hasL_get hv.1 h1)) (fun j x v h1 h2 => ihc j x v h1 h2 (hasL_get hv.2 h1))
  | ifc h ih => simp only [V.has] at hv; exact .ifc (ih hv)
  | agg hl h ih => simp only [V.has] at hv; exact .agg hl (fun j x v h1 h2 => ih j x v h1 h2 (hasL_get hv h1))
  | tup hl h ih => simp only [V.has] at hv; exact .tup hl (fun j x v h1 h2 => ih j x v h1 h2 (hasL_get hv h1))

/-- What lies in a block at hand. -/
inductive Blk where
  | cells (cs : List V)
  | dat (cs : List D)
  | rows (n e : Nat) (f : Nat → List D)
  | mp (es : List (V × V))
def Blk.has (i : Nat) : Blk → Bool
  | .cells cs => hasL i cs
  | .dat _ => false
  | .rows _ _ _ => false
  | .mp es => hasL i (es.map (·.1)) || hasL i (es.map (·.2))

abbrev Heap := List (Nat × Option Blk)
def lk {α : Type} : List (Nat × α) → Nat → Option α
  | [], _ => none
  | (k, v) :: r, i => bif Nat.beq k i then some v else lk r i

theorem lk_cons {α : Type} (k : Nat) (v : α) (r : List (Nat × α)) (i : Nat) : lk ((k, v) :: r) i = if k = i then some v else lk r i := by
  show (bif Nat.beq k i then some v else lk r i) = _
  by_cases h : k = i
  · subst h; simp
  · have e : Nat.beq k i = false := by
      cases e : Nat.beq k i
      · rfl
      · exact absurd (Nat.eq_of_beq_eq_true e) h
    rw [e, if_neg h]; rfl
theorem lk_here {α : Type} (k : Nat) (v : α) (r : List (Nat × α)) : lk ((k, v) :: r) k = some v := by rw [lk_cons, if_pos rfl]
theorem lk_there {α : Type} {k : Nat} {v : α} {r : List (Nat × α)} {i : Nat} (h : k ≠ i) : lk ((k, v) :: r) i = lk r i := by rw [lk_cons, if_neg h]
theorem lk_mem {α : Type} {l : List (Nat × α)} {t : Nat} {x : α} (h : lk l t = some x) : (t, x) ∈ l := by
  induction l with
  | nil => simp [lk] at h
  | cons p r ih =>
    obtain ⟨i, u⟩ := p
    rw [lk_cons] at h
    split at h
    · rename_i h1; subst h1; injection h with h; subst h; simp
    · exact List.mem_cons_of_mem _ (ih h)

/-- A row of cells, and the real one. -/
def CR {α : Type} (R : α → Value → Prop) (w : World) (x : Nat) (cs : List α) : Prop :=
  ∃ (arr : Array Value) (t : TypeId), w.heap[x]? = some (.cells arr t (0, 0)) ∧ cs.length ≤ arr.size ∧ ∀ (j : Nat) (c : α) (v : Value), cs[j]? = some c → arr[j]? = some v → R c v

/-- A block at hand, and the real one. -/
inductive BR (U : Nat → Prop) (m : Nat → Option Nat) (n : Nat) (w : World) : Option Nat → Blk → Prop where
  | cells {x : Nat} {cs : List V} (h : CR (VR U m n w) w x cs) : BR U m n w (some x) (.cells cs)
  | dat {x : Nat} {cs : List D} (h : CR (DR U w) w x cs) : BR U m n w (some x) (.dat cs)
  | rows {x k e : Nat} {f : Nat → List D} (hl : ∀ i, i < k → (f i).length = e) (h : CR (DR U w) w x (flatN k f)) : BR U m n w (some x) (.rows k e f)
  | rows0 {e : Nat} {f : Nat → List D} : BR U m n w none (.rows 0 e f)
  | cells0 : BR U m n w none (.cells [])
  | dat0 : BR U m n w none (.dat [])
  | mp {x : Nat} {es : List (V × V)} (ents : Array MapEntry) (clock : Nat) (h : w.heap[x]? = some (.map ents clock)) (hl : es.length = ents.size)
      (h1 : ∀ (j : Nat) (e : V × V) (r : MapEntry), es[j]? = some e → ents[j]? = some r → VR U m n w e.1 r.key)
      (h2 : ∀ (j : Nat) (e : V × V) (r : MapEntry), es[j]? = some e → ents[j]? = some r → VR U m n w e.2 r.val) : BR U m n w (some x) (.mp es)

/-- A block is at hand. -/
def Own (m : Nat → Option Nat) (b : Heap) (x : Nat) : Prop := ∃ id blk, lk b id = some (some blk) ∧ m id = some x

structure HR (U : Nat → Prop) (m : Nat → Option Nat) (n : Nat) (b : Heap) (w : World) : Prop where
  live : ∀ id blk, lk b id = some (some blk) → id < n ∧ BR U m n w (m id) blk
  ok : ∀ id blk x, lk b id = some (some blk) → m id = some x → ¬ U x ∧ x < w.heap.size
  inj : ∀ id id' blk blk' x, lk b id = some (some blk) → lk b id' = some (some blk') → m id = some x → m id' = some x → id = id'
  ulow : ∀ x, U x → x < w.heap.size

/-- How a state goes on: what is not at hand stays as it is. B: names below it stay where they are. -/
structure Stp (B : Nat) (U : Nat → Prop) (m : Nat → Option Nat) (n : Nat) (b : Heap) (w : World) (U' : Nat → Prop) (m' : Nat → Option Nat) (n' : Nat) (b' : Heap) (w' : World) : Prop where
  hn : n ≤ n'
  hm : ∀ i, i < B → m' i = m i
  hU : ∀ x, U x → U' x
  size : w.heap.size ≤ w'.heap.size
  os : w'.os = w.os
  tape : w'.tape = w.tape
  output : w'.output = w.output
  keep : ∀ x, x < w.heap.size → ¬ Own m b x → w'.heap[x]? = w.heap[x]?
  own : ∀ x, x < w.heap.size → Own m' b' x → Own m b x
  lim : ∀ x, x < w.heap.size → U' x → U x ∨ Own m b x
  hz : ∀ x z, BSize w x z → BSize w' x z

theorem Stp.refl (B : Nat) (U : Nat → Prop) (m : Nat → Option Nat) (n : Nat) (b : Heap) (w : World) : Stp B U m n b w U m n b w :=
  ⟨Nat.le_refl _, fun _ _ => rfl, fun _ h => h, Nat.le_refl _, rfl, rfl, rfl, fun _ _ _ => rfl, fun _ _ h => h, fun _ _ h => .inl h, fun _ _ h => h⟩
theorem Stp.trans {B : Nat} {U U1 U2 : Nat → Prop} {m m1 m2 : Nat → Option Nat} {n n1 n2 : Nat} {b b1 b2 : Heap} {w w1 w2 : World} (h : Stp B U m n b w U1 m1 n1 b1 w1) (k : Stp B U1 m1 n1 b1 w1 U2 m2 n2 b2 w2) : Stp B U m n b w U2 m2 n2 b2 w2 where
  hn := Nat.le_trans h.hn k.hn
  hm := fun i hi => by rw [k.hm i hi, h.hm i hi]
  hU := fun x hx => k.hU x (h.hU x hx)
  size := Nat.le_trans h.size k.size
  os := k.os.trans h.os
  tape := k.tape.trans h.tape
  output := k.output.trans h.output
  keep := fun x hx hn => by rw [k.keep x (Nat.lt_of_lt_of_le hx h.size) (fun h1 => hn (h.own x hx h1)), h.keep x hx hn]
  own := fun x hx hx2 => h.own x hx (k.own x (Nat.lt_of_lt_of_le hx h.size) hx2)
  lim := fun x hx hx2 => by
    rcases k.lim x (Nat.lt_of_lt_of_le hx h.size) hx2 with h1 | h1
    · exact h.lim x hx h1
    · exact .inr (h.own x hx h1)
  hz := fun x z hx => k.hz x z (h.hz x z hx)
theorem Stp.low {B B' : Nat} {U U1 : Nat → Prop} {m m1 : Nat → Option Nat} {n n1 : Nat} {b b1 : Heap} {w w1 : World} (h : Stp B U m n b w U1 m1 n1 b1 w1) (hb : B' ≤ B) : Stp B' U m n b w U1 m1 n1 b1 w1 :=
  ⟨h.hn, fun i hi => h.hm i (by omega), h.hU, h.size, h.os, h.tape, h.output, h.keep, h.own, h.lim, h.hz⟩

theorem HR.notOwn {U : Nat → Prop} {m : Nat → Option Nat} {n : Nat} {b : Heap} {w : World} (h : HR U m n b w) {x : Nat} (hx : U x) : ¬ Own m b x := by
  rintro ⟨id, blk, h1, h2⟩
  exact (h.ok id blk x h1 h2).1 hx
theorem DR.stp {B : Nat} {U U' : Nat → Prop} {m m' : Nat → Option Nat} {n n' : Nat} {b b' : Heap} {w w' : World} (hH : HR U m n b w) (s : Stp B U m n b w U' m' n' b' w') {v : D} {r : Value} (h : DR U w v r) : DR U' w' v r :=
  h.mono s.hU (fun x hx => s.keep x (hH.ulow x hx) (hH.notOwn hx))
theorem VR.stp {U U' : Nat → Prop} {m m' : Nat → Option Nat} {n n' : Nat} {b b' : Heap} {w w' : World} (hH : HR U m n b w) (s : Stp n U m n b w U' m' n' b' w') {v : V} {r : Value} (h : VR U m n w v r) : VR U' m' n' w' v r :=
  h.mono s.hU (fun x hx => s.keep x (hH.ulow x hx) (hH.notOwn hx)) s.hz s.hn s.hm

abbrev Slots := List (Nat × V)
structure Hp where
  n : Nat
  b : Heap

/-- The symbolic state tells of the real one. -/
structure SR (k B : Nat) (U : Nat → Prop) (m : Nat → Option Nat) (s : Slots) (h : Hp) (a : Act) (w : World) : Prop where
  slots : ∀ t v, lk s t = some v → ∃ r, a.tmps[t]? = some r ∧ VR U m h.n w v r
  size : a.tmps.size = k
  defers : a.defers = []
  heap : HR U m h.n h.b w
  base : B ≤ h.n

theorem SR.stp {k B : Nat} {U U' : Nat → Prop} {m m' : Nat → Option Nat} {s : Slots} {h h' : Hp} {a : Act} {w w' : World} (hs : SR k B U m s h a w) (st : Stp h.n U m h.n h.b w U' m' h'.n h'.b w') (hh : HR U' m' h'.n h'.b w') : SR k B U' m' s h' a w' where
  slots := fun t v hv => by
    obtain ⟨r, h1, h2⟩ := hs.slots t v hv
    exact ⟨r, h1, h2.stp hs.heap st⟩
  size := hs.size
  defers := hs.defers
  heap := hh
  base := Nat.le_trans hs.base st.hn
theorem SR.put {k B : Nat} {U : Nat → Prop} {m : Nat → Option Nat} {s : Slots} {h : Hp} {a : Act} {w : World} (hs : SR k B U m s h a w) {d : Nat} (hd : Nat.blt d k = true) {v : V} {r : Value} (hv : VR U m h.n w v r) : SR k B U m ((d, v) :: s) h (a.put (some d) r) w where
  slots := fun t u hu => by
    rw [lk_cons] at hu
    have e : (a.put (some d) r).tmps = a.tmps.setIfInBounds d r := rfl
    rw [e, Array.getElem?_setIfInBounds]
    split at hu
    · rename_i h1; subst h1; injection hu with hu; subst hu
      rw [if_pos rfl, if_pos (by rw [hs.size]; exact Nat.le_of_ble_eq_true hd)]; exact ⟨r, rfl, hv⟩
    · rename_i h1; rw [if_neg h1]; exact hs.slots t u hu
  size := by simp [Act.put, hs.size]
  defers := hs.defers
  heap := hs.heap
  base := hs.base
/-- What is known of a value is less. -/
def VLe (v v' : V) : Prop := ∀ (U : Nat → Prop) (m : Nat → Option Nat) (n : Nat) (w : World) (r : Value), VR U m n w v r → VR U m n w v' r
theorem flatN_ext {α : Type} {n : Nat} {f g : Nat → List α} (h : ∀ i, i < n → f i = g i) : flatN n f = flatN n g := by
  unfold flatN
  induction n with
  | zero => rfl
  | succ n ih => rw [List.range_succ, List.flatMap_append, List.flatMap_append, ih (fun i hi => h i (by omega))]; simp [h n (by omega)]
theorem DR.ext {U : Nat → Prop} {w : World} {n e : Nat} {f g : Nat → List D} {r : Value} (h : ∀ i, i < n → f i = g i) (k : DR U w (.rows n e f) r) : DR U w (.rows n e g) r := by
  cases k with | rows hl k => exact .rows (fun i hi => by rw [← h i hi]; exact hl i hi) (by rw [← flatN_ext h]; exact k)
theorem VLe.refl (v : V) : VLe v v := fun _ _ _ _ _ h => h
theorem VLe.un (v : V) : VLe v .un := fun _ _ _ _ _ _ => .un _
theorem VLe.nil : VLe (.d .nsl) (.d (.lst 0 [])) := fun _ _ _ _ _ h => by cases h with | d h => exact .d h.nil_lst
theorem VLe.nilR (e : Nat) (f : Nat → List D) : VLe (.d .nsl) (.d (.rows 0 e f)) := fun _ _ _ _ _ h => by
  cases h with | d h => exact .d (.rows (fun i hi => by omega) h.nil_lst)
theorem VLe.ofL {n e : Nat} {cs : List D} {f : Nat → List D} (h : cs = flatN n f) (hl : ∀ i, i < n → (f i).length = e) : VLe (.d (.lst n cs)) (.d (.rows n e f)) := fun _ _ _ _ _ k => by
  cases k with | d k => subst h; exact .d (.rows hl k)
theorem VLe.toL {n e : Nat} {f : Nat → List D} : VLe (.d (.rows n e f)) (.d (.lst n (flatN n f))) := fun _ _ _ _ _ k => by
  cases k with | d k => cases k with | rows hl k => exact .d k
theorem VLe.ext {n e : Nat} {f g : Nat → List D} (h : ∀ i, i < n → f i = g i) : VLe (.d (.rows n e f)) (.d (.rows n e g)) := fun _ _ _ _ _ k => by
  cases k with | d k => exact .d (k.ext h)
theorem VLe.trans {a b c : V} (h : VLe a b) (k : VLe b c) : VLe a c := fun U m n w r x => k U m n w r (h U m n w r x)
theorem VLe.of_eq {a b : V} (h : a = b) : VLe a b := h ▸ .refl a
/-- Less is known of each one of a list. -/
def LLe (l l' : List V) : Prop := l.length = l'.length ∧ ∀ (j : Nat) (x x' : V), l[j]? = some x → l'[j]? = some x' → VLe x x'
theorem LLe.nil : LLe [] [] := ⟨rfl, fun j x x' h => by simp at h⟩
theorem LLe.cons {v v' : V} {l l' : List V} (h : VLe v v') (k : LLe l l') : LLe (v :: l) (v' :: l') := ⟨by simp [k.1], fun j x x' h1 h2 => by
  cases j with
  | zero => simp at h1 h2; subst h1; subst h2; exact h
  | succ j => exact k.2 j x x' (by simpa using h1) (by simpa using h2)⟩
theorem LLe.refl (l : List V) : LLe l l := ⟨rfl, fun j x x' h1 h2 => by rw [h1] at h2; injection h2 with h2; subst h2; exact .refl _⟩
theorem LLe.get {l l' : List V} (h : LLe l l') {j : Nat} {x' : V} (hx : l'[j]? = some x') : ∃ x, l[j]? = some x ∧ VLe x x' := by
  have hj : j < l.length := by rw [h.1]; exact (List.getElem?_eq_some_iff.1 hx).1
  exact ⟨_, List.getElem?_eq_getElem hj, h.2 j _ _ (List.getElem?_eq_getElem hj) hx⟩
theorem VLe.agg {l l' : List V} (h : LLe l l') : VLe (.agg l) (.agg l') := fun U m n w r k => by
  cases k with | agg hl k => exact .agg (by rw [← h.1]; exact hl) (fun j c v h1 h2 => by
    obtain ⟨x, h3, h4⟩ := h.get h1
    exact h4 _ _ _ _ _ (k j x v h3 h2))
theorem VLe.tup {l l' : List V} (h : LLe l l') : VLe (.tup l) (.tup l') := fun U m n w r k => by
  cases k with | tup hl k => exact .tup (by rw [← h.1]; exact hl) (fun j c v h1 h2 => by
    obtain ⟨x, h3, h4⟩ := h.get h1
    exact h4 _ _ _ _ _ (k j x v h3 h2))
theorem VLe.fn {f : FuncId} {a a' c c' : List V} (h : LLe a a') (g : LLe c c') : VLe (.fn f a c) (.fn f a' c') := fun U m n w r k => by
  cases k with | fn la lc ha hc =>
  exact .fn (by rw [← h.1]; exact la) (by rw [← g.1]; exact lc) (fun j c v h1 h2 => by
    obtain ⟨x, h3, h4⟩ := h.get h1
    exact h4 _ _ _ _ _ (ha j x v h3 h2)) (fun j c v h1 h2 => by
    obtain ⟨x, h3, h4⟩ := g.get h1
    exact h4 _ _ _ _ _ (hc j x v h3 h2))
theorem VR.le {U : Nat → Prop} {m : Nat → Option Nat} {n : Nat} {w : World} {v v' : V} {r : Value} (h : VR U m n w v r) (l : VLe v v') : VR U m n w v' r := l U m n w r h
/-- What is known of a frame is less. -/
def Le (s s' : Slots) : Prop := ∀ p ∈ s', ∃ v, lk s p.1 = some v ∧ VLe v p.2
theorem Le.nil (s : Slots) : Le s [] := fun p hp => by simp at hp
theorem Le.cons {s s' : Slots} {i : Nat} {v : V} (h : lk s i = some v) (k : Le s s') : Le s ((i, v) :: s') := fun p hp => by
  rcases List.mem_cons.1 hp with rfl | hp
  · exact ⟨_, h, .refl _⟩
  · exact k p hp
theorem Le.consN {s s' : Slots} {i : Nat} (h : lk s i = some (.d .nsl)) (k : Le s s') : Le s ((i, .d (.lst 0 [])) :: s') := fun p hp => by
  rcases List.mem_cons.1 hp with rfl | hp
  · exact ⟨_, h, .nil⟩
  · exact k p hp
theorem SR.le {k B : Nat} {U : Nat → Prop} {m : Nat → Option Nat} {s s' : Slots} {h : Hp} {a : Act} {w : World} (hs : SR k B U m s h a w) (hl : Le s s') : SR k B U m s' h a w where
  slots := fun t v hv => by
    obtain ⟨u, h1, h2⟩ := hl _ (lk_mem hv)
    obtain ⟨r, h3, h4⟩ := hs.slots t u h1
    exact ⟨r, h3, h4.le h2⟩
  size := hs.size
  defers := hs.defers
  heap := hs.heap
  base := hs.base
end Go.Proofs.Ytmgckodihnmjoaa
