/-
  The logic's rules for slices that are made and grown, and for stores. Conditions: none.
-/
import Derived.Test.YtmgckodihnmjoaaSy5
import Derived.Laws.AppendOwn
set_option linter.unusedVariables false
set_option linter.unusedSimpArgs false
set_option maxRecDepth 20000
namespace Go.Proofs.Ytmgckodihnmjoaa
open Go.RowKit

/-- What names a block is forgotten. -/
def dropV (id : Nat) (v : V) : V := bif v.has id then .un else v
def dropS (id : Nat) (s : Slots) : Slots := s.map fun p => (p.1, dropV id p.2)
def dropB (id : Nat) : Option Blk → Option Blk
  | some (.cells cs) => some (.cells (cs.map (dropV id)))
  | some (.mp es) => some (.mp (es.map fun e => (dropV id e.1, dropV id e.2)))
  | b => b
def dropH (id : Nat) (b : Heap) : Heap := b.map fun p => (p.1, dropB id p.2)
theorem dropV_has (id : Nat) (v : V) : (dropV id v).has id = false := by
  unfold dropV
  cases h : v.has id
  · exact h
  · rfl
theorem VR.drop {U : Nat → Prop} {m : Nat → Option Nat} {n : Nat} {w : World} {v : V} {r : Value} (h : VR U m n w v r) (id : Nat) : VR U m n w (dropV id v) r := by
  unfold dropV
  cases v.has id
  · exact h
  · exact .un _
theorem lk_map {α β : Type} (f : α → β) (l : List (Nat × α)) (i : Nat) : lk (l.map fun p => (p.1, f p.2)) i = (lk l i).map f := by
  induction l with
  | nil => rfl
  | cons p r ih =>
    obtain ⟨k, v⟩ := p
    simp only [List.map_cons, lk_cons]
    split
    · rfl
    · exact ih
theorem hasL_drop (id : Nat) (l : List V) : hasL id (l.map (dropV id)) = false := by
  induction l with
  | nil => rfl
  | cons v r ih => simp only [List.map_cons, hasL, dropV_has, ih]; rfl
theorem dropB_has (id : Nat) {b : Option Blk} {bk : Blk} (h : dropB id b = some bk) : bk.has id = false := by
  cases b with
  | none => cases h
  | some b =>
    cases b with
    | cells cs => simp only [dropB, Option.some.injEq] at h; subst h; exact hasL_drop id cs
    | dat cs => simp only [dropB, Option.some.injEq] at h; subst h; rfl
    | rows n e f => simp only [dropB, Option.some.injEq] at h; subst h; rfl
    | mp es =>
      simp only [dropB, Option.some.injEq] at h; subst h
      have e1 := hasL_drop id (es.map (·.1))
      have e2 := hasL_drop id (es.map (·.2))
      simp only [List.map_map] at e1 e2
      simp only [Blk.has, List.map_map, Bool.or_eq_false_iff]
      exact ⟨e1, e2⟩
theorem BR.drop {U : Nat → Prop} {m : Nat → Option Nat} {n : Nat} {w : World} {mx : Option Nat} {bk bk' : Blk} (h : BR U m n w mx bk) (id : Nat) (hd : dropB id (some bk) = some bk') : BR U m n w mx bk' := by
  cases h with
  | cells h =>
    simp only [dropB, Option.some.injEq] at hd; subst hd
    obtain ⟨arr, t, h1, h2, h3⟩ := h
    refine .cells ⟨arr, t, h1, by simpa using h2, fun j c v hc hv => ?_⟩
    rw [List.getElem?_map] at hc
    obtain ⟨c0, hc0, rfl⟩ := Option.map_eq_some_iff.1 hc
    exact (h3 j c0 v hc0 hv).drop id
  | dat h => simp only [dropB, Option.some.injEq] at hd; subst hd; exact .dat h
  | rows hl h => simp only [dropB, Option.some.injEq] at hd; subst hd; exact .rows hl h
  | rows0 => simp only [dropB, Option.some.injEq] at hd; subst hd; exact .rows0
  | cells0 => simp only [dropB, Option.some.injEq] at hd; subst hd; exact .cells0
  | dat0 => simp only [dropB, Option.some.injEq] at hd; subst hd; exact .dat0
  | mp ents clock h hl h1 h2 =>
    simp only [dropB, Option.some.injEq] at hd; subst hd
    refine .mp ents clock h (by simpa using hl) (fun j e r he hr => ?_) (fun j e r he hr => ?_)
    all_goals
      rw [List.getElem?_map] at he
      obtain ⟨e0, he0, rfl⟩ := Option.map_eq_some_iff.1 he
    · exact (h1 j e0 r he0 hr).drop id
    · exact (h2 j e0 r he0 hr).drop id

section
variable {E : Env} {k B : Nat} {s s' : Slots} {h h' : Hp} {Q Q' : Post} {U : Nat → Prop} {m : Nat → Option Nat} {a : Act} {w w' : World}

theorem own_drop (id : Nat) (b : Heap) (x : Nat) : Own m (dropH id b) x ↔ Own m b x := by
  constructor
  · rintro ⟨i, bk, h1, h2⟩
    unfold dropH at h1
    rw [lk_map] at h1
    obtain ⟨b0, h3, h4⟩ := Option.map_eq_some_iff.1 h1
    cases b0 with
    | none => cases h4
    | some b0 => exact ⟨i, b0, h3, h2⟩
  · rintro ⟨i, bk, h1, h2⟩
    have : ∃ bk', dropB id (some bk) = some bk' := by cases bk <;> exact ⟨_, rfl⟩
    obtain ⟨bk', h3⟩ := this
    exact ⟨i, bk', by unfold dropH; rw [lk_map, h1]; exact congrArg some h3, h2⟩
theorem lk_dropH {id i : Nat} {b : Heap} {bk : Blk} (h : lk (dropH id b) i = some (some bk)) : ∃ b0, lk b i = some (some b0) ∧ dropB id (some b0) = some bk := by
  unfold dropH at h
  rw [lk_map] at h
  obtain ⟨b0, h3, h4⟩ := Option.map_eq_some_iff.1 h
  cases b0 with
  | none => cases h4
  | some b0 => exact ⟨b0, h3, h4⟩
/-- What names a block may be forgotten. -/
theorem SR.drop (r : SR k B U m s h a w) (id : Nat) : SR k B U m (dropS id s) ⟨h.n, dropH id h.b⟩ a w ∧ Stp B U m h.n h.b w U m h.n (dropH id h.b) w := by
  refine ⟨⟨fun t v hv => ?_, r.size, r.defers, ⟨fun i bk h1 => ?_, fun i bk x h1 h2 => ?_, fun i i' bk bk' x h1 h2 h3 h4 => ?_, r.heap.ulow⟩, r.base⟩, { Stp.refl B U m h.n h.b w with own := fun x _ hx => (own_drop id h.b x).1 hx }⟩
  · unfold dropS at hv
    rw [lk_map] at hv
    obtain ⟨v0, h1, rfl⟩ := Option.map_eq_some_iff.1 hv
    obtain ⟨x, h2, h3⟩ := r.slots t v0 h1
    exact ⟨x, h2, h3.drop id⟩
  · obtain ⟨b0, h3, h4⟩ := lk_dropH h1
    obtain ⟨h5, h6⟩ := r.heap.live i b0 h3
    exact ⟨h5, h6.drop id h4⟩
  · obtain ⟨b0, h3, _⟩ := lk_dropH h1
    exact r.heap.ok i b0 x h3 h2
  · obtain ⟨b0, h5, _⟩ := lk_dropH h1
    obtain ⟨b1, h6, _⟩ := lk_dropH h2
    exact r.heap.inj i i' b0 b1 x h5 h6 h3 h4
theorem BR.remap {n i : Nat} {m' : Nat → Option Nat} (hm : ∀ j, j ≠ i → m' j = m j) {mx : Option Nat} {bk : Blk} (h : BR U m n w mx bk) (hv : bk.has i = false) : BR U m' n w mx bk := by
  cases h with
  | cells h =>
    obtain ⟨arr, t, h1, h2, h3⟩ := h
    exact .cells ⟨arr, t, h1, h2, fun j c v hc hr => (h3 j c v hc hr).remap hm (hasL_get hv hc)⟩
  | dat h => exact .dat h
  | rows hl h => exact .rows hl h
  | rows0 => exact .rows0
  | cells0 => exact .cells0
  | dat0 => exact .dat0
  | mp ents clock h hl h1 h2 =>
    simp only [Blk.has, Bool.or_eq_false_iff] at hv
    exact .mp ents clock h hl (fun j e r he hr => (h1 j e r he hr).remap hm (hasL_get hv.1 (by rw [List.getElem?_map, he]; rfl))) (fun j e r he hr => (h2 j e r he hr).remap hm (hasL_get hv.2 (by rw [List.getElem?_map, he]; rfl)))
/-- A block at hand, which nothing else names, is made anew elsewhere. -/
theorem SR.moveAt {id : Nat} {blk' : Blk} (r : SR k B U m s h a w) (hB : B ≤ id) (hid : id < h.n) (hs : ∀ t v, lk s t = some v → v.has id = false) (hh : ∀ i bk, lk h.b i = some (some bk) → i ≠ id → bk.has id = false)
    {obj : Obj} (hw : w'.heap = w.heap.push obj) (ho : w'.os = w.os) (ht : w'.tape = w.tape) (hout : w'.output = w.output)
    (hbr : BR U (ext m id (some w.heap.size)) h.n w' (some w.heap.size) blk') :
    SR k B U (ext m id (some w.heap.size)) s ⟨h.n, (id, some blk') :: h.b⟩ a w' ∧ Stp B U m h.n h.b w U (ext m id (some w.heap.size)) h.n ((id, some blk') :: h.b) w' := by
  have hme : ∀ j, j ≠ id → ext m id (some w.heap.size) j = m j := fun j hj => ext_ne hj
  have hU : ∀ x, U x → w'.heap[x]? = w.heap[x]? := fun x hx => push_old hw (r.heap.ulow x hx)
  have hz : ∀ x z, BSize w x z → BSize w' x z := fun x z hz => bsize_push hw hz
  have st : Stp B U m h.n h.b w U (ext m id (some w.heap.size)) h.n ((id, some blk') :: h.b) w' :=
    { hn := Nat.le_refl _, hm := fun i hi => hme i (by omega), hU := fun _ h => h, size := by rw [hw]; simp, os := ho, tape := ht, output := hout, keep := fun x hx _ => push_old hw hx
      own := fun x hx ⟨i, bk, h1, h2⟩ => by
        rw [lk_cons] at h1
        split at h1
        · rename_i e; subst e; rw [ext_here] at h2; injection h2 with h2; omega
        · rename_i hne; rw [hme i (fun e => hne e.symm)] at h2; exact ⟨i, bk, h1, h2⟩
      lim := fun x _ hx => .inl hx, hz := hz }
  refine ⟨⟨fun t v hv => ?_, r.size, r.defers, ⟨fun i bk h1 => ?_, fun i bk x h1 h2 => ?_, fun i i' bk bk' x h1 h2 h3 h4 => ?_, fun x hx => Nat.lt_of_lt_of_le (r.heap.ulow x hx) st.size⟩, r.base⟩, st⟩
  · obtain ⟨x, h1, h2⟩ := r.slots t v hv
    exact ⟨x, h1, (h2.remap hme (hs t v hv)).mono (fun _ h => h) hU hz (Nat.le_refl _) (fun _ _ => rfl)⟩
  · rw [lk_cons] at h1
    split at h1
    · rename_i e; subst e; injection h1 with h1; injection h1 with h1; subst h1
      exact ⟨hid, by rw [ext_here]; exact hbr⟩
    · rename_i hne
      obtain ⟨g1, g2⟩ := r.heap.live i bk h1
      refine ⟨g1, ?_⟩
      rw [hme i (fun e => hne e.symm)]
      exact (g2.remap hme (hh i bk h1 (fun e => hne e.symm))).mono (fun _ h => h) hU hz (Nat.le_refl _) (fun _ _ => rfl) (fun x hx => push_old hw (r.heap.ok i bk x h1 hx).2)
  · rw [lk_cons] at h1
    split at h1
    · rename_i e; subst e; rw [ext_here] at h2; injection h2 with h2; subst h2
      exact ⟨fun hx => absurd (r.heap.ulow _ hx) (by omega), by rw [hw]; simp⟩
    · rename_i hne
      rw [hme i (fun e => hne e.symm)] at h2
      obtain ⟨g1, g2⟩ := r.heap.ok i bk x h1 h2
      exact ⟨g1, Nat.lt_of_lt_of_le g2 st.size⟩
  · rw [lk_cons] at h1 h2
    split at h1
    · rename_i e; subst e
      split at h2
      · rename_i e; exact e
      · rename_i hne
        rw [ext_here] at h3; injection h3 with h3; subst h3
        rw [hme i' (fun e => hne e.symm)] at h4
        exact absurd (r.heap.ok i' bk' _ h2 h4).2 (by omega)
    · rename_i hne
      rw [hme i (fun e => hne e.symm)] at h3
      split at h2
      · rename_i e; subst e; rw [ext_here] at h4; injection h4 with h4; subst h4
        exact absurd (r.heap.ok i bk _ h1 h3).2 (by omega)
      · rename_i hne'
        rw [hme i' (fun e => hne' e.symm)] at h4
        exact r.heap.inj i i' bk bk' x h1 h2 h3 h4

theorem SR.move {id : Nat} {blk blk' : Blk} (r : SR k B U m s h a w) (hB : B ≤ id) (hb : lk h.b id = some (some blk)) (hs : ∀ t v, lk s t = some v → v.has id = false) (hh : ∀ i bk, lk h.b i = some (some bk) → i ≠ id → bk.has id = false)
    {obj : Obj} (hw : w'.heap = w.heap.push obj) (ho : w'.os = w.os) (ht : w'.tape = w.tape) (hout : w'.output = w.output)
    (hbr : BR U (ext m id (some w.heap.size)) h.n w' (some w.heap.size) blk') :
    SR k B U (ext m id (some w.heap.size)) s ⟨h.n, (id, some blk') :: h.b⟩ a w' ∧ Stp B U m h.n h.b w U (ext m id (some w.heap.size)) h.n ((id, some blk') :: h.b) w' := r.moveAt hB (r.heap.live _ _ hb).1 hs hh hw ho ht hout hbr
/-- A variable, under a name that is free. -/
theorem Ac.allocAt {o : Oper} {t : TypeId} {td : TypeDesc} {tz tb : Nat} {tr : Option Value} {d c : Nat} {z : Value} {l : List V} (ho : o.op = .alloc t) (hd : o.dst = some d) (hk : Nat.blt d k = true) (ht : lk E.tab t = some ⟨td, tz, tb, tr⟩) (hz : tr = some z) (hl : absL z.cells.toList = some l)
    (hB : B ≤ c) (hid : c < h.n) (hs : ∀ t v, lk s t = some v → v.has c = false) (hh : ∀ i bk, lk h.b i = some (some bk) → i ≠ c → bk.has c = false) :
    Ac E k B true s h o ((d, .ptr c 0) :: s) ⟨h.n, (c, some (.cells l)) :: h.b⟩ := fun U m a w r => by
  obtain ⟨c1, c2⟩ := absL_ok (U := U) (m := ext m c (some w.heap.size)) (n := h.n) (w := w) hl
  have hw : (w.alloc (.cells z.cells t)).heap = w.heap.push (.cells z.cells t) := rfl
  have hlr : l.length ≤ z.cells.size := by simp [c1]
  obtain ⟨r1, st⟩ := r.moveAt (id := c) (blk' := .cells l) (w' := w.alloc (.cells z.cells t)) hB hid hs hh hw rfl rfl rfl
    (.cells ⟨z.cells, t, push_new hw, hlr, fun j c u hc hu => (c2 j c u hc (by simpa using hu)).mono (fun _ h => h) (fun x hx => push_old hw (r.heap.ulow x hx)) (fun x z hz => bsize_push hw hz) (Nat.le_refl _) (fun _ _ => rfl)⟩)
  refine ⟨_, _, w.alloc (.cells z.cells t), _, _, by simp only [execOp, ho, Instr.alloc, zer ht hz, newVar, newRow, newObj, Sem.run_bind, Sem.run_pure, Result.andThen_ok, Sem.run]; rfl, .inl ⟨_, rfl, rfl⟩, ?_, st, fun _ x hx => push_old hw hx⟩
  rw [hd]
  exact r1.put hk (.ptr hid (ext_here _ _ _))
/-- What is appended: so many elements of e cells, l the cells. -/
def Src (s : Slots) (h : Hp) (x : Operand) (e n : Nat) (l : List V) : Prop :=
  ∀ k B U m a w, SR k B U m s h a w → ∃ (A : Option Addr) (c : Nat) (news : List Value), a.eval x = .slice A n c ∧ news.length = n * e ∧ l.length = n * e ∧ (A = none → n = 0) ∧ (∀ ad, A = some ad → ∀ j u, news[j]? = some u → w.cell? (ad.add j) = some u) ∧
    (∀ u ∈ news, u.oneCell' = true) ∧ ∀ (j : Nat) (c : V) (u : Value), l[j]? = some c → news[j]? = some u → VR U m h.n w c u
theorem dr_one {d : D} {r : Value} (h : DR U w d r) : r.oneCell' = true := (dr_cell h).1
theorem Src.lst {x : Operand} {e n : Nat} {cs : List D} (hx : evO s x = some (.d (.lst n cs))) (hl : cs.length = n * e) (he : 0 < e) : Src s h x e n (cs.map .d) := fun k B U m a w r => by
  have h1 := r.evD hx
  generalize hv : a.eval x = v at h1
  cases h1 with | @lst _ _ A cap f hk hc ha hv2 =>
  refine ⟨A, cap, (List.range cs.length).map f, rfl, by simp [hl], by simpa using hl, fun hA => ?_, fun ad hA j u hu => ?_, fun u hu => ?_, fun j c u hc hu => ?_⟩
  · cases n with
    | zero => rfl
    | succ n =>
      have : 0 < cs.length := by rw [hl]; exact Nat.mul_pos (by omega) (by omega)
      obtain ⟨ad, h1, _⟩ := ha 0 this
      rw [hA] at h1; cases h1
  · rw [List.getElem?_map] at hu
    obtain ⟨i, hi, rfl⟩ := Option.map_eq_some_iff.1 hu
    obtain ⟨hj, h2⟩ := List.getElem?_eq_some_iff.1 hi
    simp at hj h2; subst h2
    obtain ⟨ad', h3, _, h4⟩ := ha j hj
    rw [hA] at h3; injection h3 with h3; subst h3; exact h4
  · obtain ⟨i, hi, rfl⟩ := List.mem_map.1 hu
    simp at hi
    exact dr_one (hv2 i _ (List.getElem?_eq_getElem hi))
  · rw [List.getElem?_map] at hc hu
    obtain ⟨c0, hc0, rfl⟩ := Option.map_eq_some_iff.1 hc
    obtain ⟨i, hi, rfl⟩ := Option.map_eq_some_iff.1 hu
    obtain ⟨hj, h2⟩ := List.getElem?_eq_some_iff.1 hi
    simp at h2; subst h2
    exact .d (hv2 j c0 hc0)
theorem Src.nil {x : Operand} {e : Nat} (hx : evO s x = some (.d .nsl)) : Src s h x e 0 [] := fun k B U m a w r => by
  have h1 := r.evD hx
  generalize hv : a.eval x = v at h1
  cases h1
  exact ⟨none, 0, [], rfl, by simp, by simp, fun _ => rfl, fun ad hA => (by cases hA), fun u hu => (by cases hu), fun j c u hc => by simp at hc⟩
/-- Out of a block at hand. -/
theorem Src.dat {x : Operand} {e id off n : Nat} {cs l : List D} (hx : evO s x = some (.sl e id off n)) (hb : lk h.b id = some (some (.dat cs))) (hl : (cs.drop off).take (n * e) = l) (hz : l.length = n * e) : Src s h x e n (l.map .d) := fun k B U m a w r => by
  have h1 := r.opnd hx
  generalize hv : a.eval x = v at h1
  cases h1 with
  | sl0 hid hm =>
    have : l = [] := List.eq_nil_of_length_eq_zero (by omega)
    subst this
    exact ⟨none, 0, [], rfl, by simp, by simp, fun _ => rfl, fun ad hA => (by cases hA), fun u hu => (by cases hu), fun j c u hc => by simp at hc⟩
  | @sl _ _ _ _ xx cap z hid hm hk hc hz2 hs =>
  obtain ⟨_, hbr⟩ := r.heap.live id _ hb
  rw [hm] at hbr
  cases hbr with | dat hbr =>
  obtain ⟨arr, t, g1, g2, g3⟩ := hbr
  have hin : ∀ j, j < n * e → ∃ c rv, l[j]? = some c ∧ arr[off + j]? = some rv ∧ DR U w c rv := fun j hj => by
    have e1 := List.getElem?_eq_getElem (show j < l.length by omega)
    have e2 := take_get hl e1
    have e3 : off + j < arr.size := Nat.lt_of_lt_of_le (List.getElem?_eq_some_iff.1 e2).1 g2
    exact ⟨_, _, e1, Array.getElem?_eq_getElem e3, g3 _ _ _ e2 (Array.getElem?_eq_getElem e3)⟩
  refine ⟨_, cap, (List.range (n * e)).map (fun j => arr.getD (off + j) undef), rfl, by simp, by simpa using hz, (fun hA => by cases hA), fun ad hA j u hu => ?_, fun u hu => ?_, fun j c u hc hu => ?_⟩
  · injection hA with hA; subst hA
    rw [List.getElem?_map] at hu
    obtain ⟨i, hi, rfl⟩ := Option.map_eq_some_iff.1 hu
    obtain ⟨hj, h2⟩ := List.getElem?_eq_some_iff.1 hi
    simp at hj h2; subst h2
    obtain ⟨c, rv, _, e2, _⟩ := hin j hj
    rw [Addr.add_lit, cell_of_arr g1, Array.getD_eq_getD_getElem?, e2]; rfl
  · obtain ⟨i, hi, rfl⟩ := List.mem_map.1 hu
    obtain ⟨c, rv, _, e2, e3⟩ := hin i (by simpa using hi)
    rw [Array.getD_eq_getD_getElem?, e2]
    exact dr_one e3
  · rw [List.getElem?_map] at hc hu
    obtain ⟨c0, hc0, rfl⟩ := Option.map_eq_some_iff.1 hc
    obtain ⟨i, hi, rfl⟩ := Option.map_eq_some_iff.1 hu
    obtain ⟨hj, h2⟩ := List.getElem?_eq_some_iff.1 hi
    simp at hj h2; subst h2
    obtain ⟨c, rv, e1, e2, e3⟩ := hin j hj
    rw [hc0] at e1; injection e1 with e1; subst e1
    rw [Array.getD_eq_getD_getElem?, e2]; exact .d e3
theorem Src.cells {x : Operand} {e id off n : Nat} {cs l : List V} (hx : evO s x = some (.sl e id off n)) (hb : lk h.b id = some (some (.cells cs))) (hl : (cs.drop off).take (n * e) = l) (hz : l.length = n * e) (hok : l.all cellOk = true) : Src s h x e n l := fun k B U m a w r => by
  have h1 := r.opnd hx
  generalize hv : a.eval x = v at h1
  cases h1 with
  | sl0 hid hm =>
    have : l = [] := List.eq_nil_of_length_eq_zero (by omega)
    subst this
    exact ⟨none, 0, [], rfl, by simp, by simp, fun _ => rfl, fun ad hA => (by cases hA), fun u hu => (by cases hu), fun j c u hc => by simp at hc⟩
  | @sl _ _ _ _ xx cap z hid hm hk hc hz2 hs =>
  obtain ⟨_, hbr⟩ := r.heap.live id _ hb
  rw [hm] at hbr
  cases hbr with | cells hbr =>
  obtain ⟨arr, t, g1, g2, g3⟩ := hbr
  have hin : ∀ j, j < n * e → ∃ c rv, l[j]? = some c ∧ arr[off + j]? = some rv ∧ VR U m h.n w c rv := fun j hj => by
    have e1 := List.getElem?_eq_getElem (show j < l.length by omega)
    have e2 := take_get hl e1
    have e3 : off + j < arr.size := Nat.lt_of_lt_of_le (List.getElem?_eq_some_iff.1 e2).1 g2
    exact ⟨_, _, e1, Array.getElem?_eq_getElem e3, g3 _ _ _ e2 (Array.getElem?_eq_getElem e3)⟩
  refine ⟨_, cap, (List.range (n * e)).map (fun j => arr.getD (off + j) undef), rfl, by simp, hz, (fun hA => by cases hA), fun ad hA j u hu => ?_, fun u hu => ?_, fun j c u hc hu => ?_⟩
  · injection hA with hA; subst hA
    rw [List.getElem?_map] at hu
    obtain ⟨i, hi, rfl⟩ := Option.map_eq_some_iff.1 hu
    obtain ⟨hj, h2⟩ := List.getElem?_eq_some_iff.1 hi
    simp at hj h2; subst h2
    obtain ⟨c, rv, _, e2, _⟩ := hin j hj
    rw [Addr.add_lit, cell_of_arr g1, Array.getD_eq_getD_getElem?, e2]; rfl
  · obtain ⟨i, hi, rfl⟩ := List.mem_map.1 hu
    obtain ⟨c, rv, e1, e2, e3⟩ := hin i (by simpa using hi)
    rw [Array.getD_eq_getD_getElem?, e2]
    exact (cellOk_one e3 (List.all_eq_true.1 hok c (List.mem_of_getElem? e1))).1
  · rw [List.getElem?_map] at hu
    obtain ⟨i, hi, rfl⟩ := Option.map_eq_some_iff.1 hu
    obtain ⟨hj, h2⟩ := List.getElem?_eq_some_iff.1 hi
    simp at hj h2; subst h2
    obtain ⟨c', rv, e1, e2, e3⟩ := hin j hj
    rw [hc] at e1; injection e1 with e1; subst e1
    rw [Array.getD_eq_getD_getElem?, e2]; exact e3
end
end Go.Proofs.Ytmgckodihnmjoaa
