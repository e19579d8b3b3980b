/-
  The logic's rules for addresses, reads, parts of values. Conditions: none.
-/
import Derived.Test.YtmgckodihnmjoaaSy3
import Derived.Laws.Entries
import Derived.Laws.Sem
set_option linter.unusedVariables false
set_option linter.unusedSimpArgs false
set_option maxRecDepth 20000
namespace Go.Proofs.Ytmgckodihnmjoaa
open Go.RowKit

section
variable {E : Env} {k B : Nat} {s s' : Slots} {h h' : Hp} {Q Q' : Post} {U : Nat → Prop} {m : Nat → Option Nat} {a : Act} {w : World} {o : Oper} {v : V} {t u : TypeId} {td : TypeDesc} {tz tb : Nat} {tr : Option Value} {x y : Operand} {ρ : Bool}

theorem und (ht : lk E.tab t = some ⟨td, tz, tb, tr⟩) (w : World) : (underlying t).run E.P w = .ok td w := run_underlying (E.ok t _ ht).1 w
theorem szo (ht : lk E.tab t = some ⟨td, tz, tb, tr⟩) (w : World) : (sizeOf t).run E.P w = .ok tz w := by
  obtain ⟨_, i, h1, h2, _⟩ := E.ok t _ ht
  simp [sizeOf, typeInfo, h1, h2]
def aggD : TypeDesc → Bool
  | .struct _ | .array _ _ => true
  | _ => false
theorem isagg (ht : lk E.tab t = some ⟨td, tz, tb, tr⟩) (w : World) : (isAgg t).run E.P w = .ok (aggD td) w := by
  obtain ⟨h0, _⟩ := E.ok t _ ht
  have := run_underlying h0 w
  unfold isAgg
  rw [Sem.run_bind, this]
  cases td <;> rfl
theorem zer (ht : lk E.tab t = some ⟨td, tz, tb, tr⟩) {z : Value} (hz : tr = some z) (w : World) : (zeroValue t).run E.P w = .ok z w := by
  obtain ⟨_, i, h1, _, _, h2⟩ := E.ok t _ ht
  simp [zeroValue, typeInfo, h1, h2, hz]

theorem run_loads {P : Program} {w : World} {a : Addr} {f : Nat → Value} : ∀ (n i : Nat) (acc : Array Value), (∀ j, j < n → w.cell? (a.add (i + j)) = some (f (i + j))) →
    (loadCellsFrom a i n acc).run P w = .ok (acc ++ ((List.range' i n).map f).toArray) w
  | 0, i, acc, _ => by simp [loadCellsFrom]
  | n + 1, i, acc, hc => by
    have h0 := hc 0 (by omega)
    have ih := run_loads (P := P) (w := w) (a := a) (f := f) n (i + 1) (acc.push (f i)) (fun j hj => by have := hc (j + 1) (by omega); rwa [show i + (j + 1) = i + 1 + j by omega] at this)
    simp only [Nat.add_zero] at h0
    simp only [loadCellsFrom, Sem.run_bind, run_load, h0, Result.andThen_ok, ih]
    simp [List.range'_succ]

/-- The value of a variable: so many cells from an address on. -/
theorem run_var {P : Program} {w : World} {t : TypeId} {ad : Addr} {f : Nat → Value} {g : Bool} {z : Nat} (hg : (isAgg t).run P w = .ok g w) (hs : (sizeOf t).run P w = .ok z w) (hc : ∀ j, j < (if g then z else 1) → w.cell? (ad.add j) = some (f j)) :
    (loadVar t ad).run P w = .ok (if g then .agg ((List.range z).map f).toArray else f 0) w := by
  unfold loadVar
  rw [Sem.run_bind, hg]
  cases g
  · have := hc 0 (by simp)
    have e : ad.add 0 = ad := by unfold Addr.add; simp
    rw [e] at this
    simp [this]
  · simp only [Result.andThen_ok, if_true, Sem.run_bind, hs, loadCells]
    rw [run_loads z 0 #[] (fun j hj => by simpa using hc j (by simpa using hj))]
    simp [List.range_eq_range']

/-- The cells that a variable's value is made of, as a value. -/
def mk (g : Bool) (l : List V) : V := bif g then .agg l else l.headD .un
theorem mk_ok {U : Nat → Prop} {m : Nat → Option Nat} {n : Nat} {w : World} {g : Bool} {z : Nat} {l : List V} {f : Nat → Value} (hl : l.length = if g then z else 1) (hv : ∀ j c, l[j]? = some c → VR U m n w c (f j)) :
    VR U m n w (mk g l) (if g then .agg ((List.range z).map f).toArray else f 0) := by
  cases g
  · match l, hl with
    | [c], _ => exact hv 0 c rfl
  · simp only [if_true] at hl
    refine .agg (by simpa using hl) (fun j c v h1 h2 => ?_)
    have hj : j < z := by rw [← hl]; exact (List.getElem?_eq_some_iff.1 h1).1
    simp [hj] at h2
    subst h2
    exact hv j c h1

theorem SR.evPtr (r : SR k B U m s h a w) {x : Operand} {id off : Nat} (hv : evO s x = some (.ptr id off)) : ∃ b, m id = some b ∧ a.eval x = .pointer (some ⟨b, off, none⟩) ∧ id < h.n := by
  have h1 := r.opnd hv
  generalize a.eval x = y at h1
  cases h1 with | ptr h2 h3 => exact ⟨_, h3, rfl, h2⟩
theorem Same0.le {w w' : World} (hs : Same0 w w') {x : Nat} {o : Obj} (h : w.heap[x]? = some o) : w'.heap[x]? = some o := by
  rw [hs x (Array.getElem?_eq_some_iff.1 h).1]; exact h
theorem cell_of_arr {w : World} {x : Nat} {arr : Array Value} {t : TypeId} {f : Nat × Nat} (h : w.heap[x]? = some (.cells arr t f)) (i : Nat) : w.cell? ⟨x, i, none⟩ = arr[i]? := by
  unfold World.cell?; simp [h]

theorem take_get {α : Type} {l : List α} {off z j : Nat} {r : List α} (hl : (l.drop off).take z = r) {c : α} (hc : r[j]? = some c) : l[off + j]? = some c := by
  subst hl
  rw [List.getElem?_take] at hc
  split at hc
  · rwa [List.getElem?_drop] at hc
  · cases hc

theorem Yl.load {id off : Nat} {cs l : List V} (ho : o.op = .load t x) (ht : lk E.tab t = some ⟨td, tz, tb, tr⟩) (hx : evO s x = some (.ptr id off)) (hb : lk h.b id = some (some (.cells cs)))
    (hl : (cs.drop off).take (bif aggD td then tz else 1) = l) (hz : Nat.beq l.length (bif aggD td then tz else 1) = true) : Yl true E k B s h o (mk (aggD td) l) := fun U m a w r => by
  obtain ⟨b, h1, h2, h3⟩ := r.evPtr hx
  obtain ⟨_, hbr⟩ := r.heap.live id _ hb
  rw [h1] at hbr
  cases hbr with | cells hbr =>
  obtain ⟨arr, et, g1, g2, g3⟩ := hbr
  have hz' := Nat.eq_of_beq_eq_true hz
  have hin : ∀ j, j < l.length → ∃ c rv, l[j]? = some c ∧ arr[off + j]? = some rv ∧ VR U m h.n w c rv := fun j hj => by
    have e1 := List.getElem?_eq_getElem hj
    have e2 := take_get hl e1
    have e3 : off + j < arr.size := Nat.lt_of_lt_of_le (List.getElem?_eq_some_iff.1 e2).1 g2
    exact ⟨_, _, e1, Array.getElem?_eq_getElem e3, g3 _ _ _ e2 (Array.getElem?_eq_getElem e3)⟩
  have hN : l.length = if aggD td = true then tz else 1 := by rw [hz']; cases aggD td <;> rfl
  refine ⟨_, mk_ok (f := fun j => arr.getD (off + j) undef) hN (fun j c hc => ?_), fun w' hw => ?_⟩
  · obtain ⟨c', rv, e1, e2, e3⟩ := hin j (List.getElem?_eq_some_iff.1 hc).1
    rw [hc] at e1; injection e1 with e1; subst e1
    rw [Array.getD_eq_getD_getElem?, e2]; exact e3
  · have := run_var (P := E.P) (w := w') (t := t) (ad := ⟨b, off, none⟩) (f := fun j => arr.getD (off + j) undef) (isagg ht w') (szo ht w') (fun j hj => by
      obtain ⟨c', rv, e1, e2, e3⟩ := hin j (by rw [hN]; exact hj)
      rw [Addr.add_lit, cell_of_arr ((hw rfl).le g1), Array.getD_eq_getD_getElem?, e2]; rfl)
    simp only [execOp, ho, Instr.loadAt, h2, Instr.sureAddr, Sem.run_bind, Sem.run_pure, Result.andThen_ok, this]
theorem Yl.loadD {id off : Nat} {cs l : List D} (ho : o.op = .load t x) (ht : lk E.tab t = some ⟨td, tz, tb, tr⟩) (hx : evO s x = some (.ptr id off)) (hb : lk h.b id = some (some (.dat cs)))
    (hl : (cs.drop off).take (bif aggD td then tz else 1) = l) (hz : Nat.beq l.length (bif aggD td then tz else 1) = true) : Yl true E k B s h o (mk (aggD td) (l.map .d)) := fun U m a w r => by
  obtain ⟨b, h1, h2, h3⟩ := r.evPtr hx
  obtain ⟨_, hbr⟩ := r.heap.live id _ hb
  rw [h1] at hbr
  cases hbr with | dat hbr =>
  obtain ⟨arr, et, g1, g2, g3⟩ := hbr
  have hz' := Nat.eq_of_beq_eq_true hz
  have hin : ∀ j, j < l.length → ∃ c rv, l[j]? = some c ∧ arr[off + j]? = some rv ∧ DR U w c rv := fun j hj => by
    have e1 := List.getElem?_eq_getElem hj
    have e2 := take_get hl e1
    have e3 : off + j < arr.size := Nat.lt_of_lt_of_le (List.getElem?_eq_some_iff.1 e2).1 g2
    exact ⟨_, _, e1, Array.getElem?_eq_getElem e3, g3 _ _ _ e2 (Array.getElem?_eq_getElem e3)⟩
  have hN : l.length = if aggD td = true then tz else 1 := by rw [hz']; cases aggD td <;> rfl
  refine ⟨_, mk_ok (f := fun j => arr.getD (off + j) undef) (by rw [List.length_map]; exact hN) (fun j c hc => ?_), fun w' hw => ?_⟩
  · rw [List.getElem?_map] at hc
    obtain ⟨c0, hc0, rfl⟩ := Option.map_eq_some_iff.1 hc
    obtain ⟨c', rv, e1, e2, e3⟩ := hin j (List.getElem?_eq_some_iff.1 hc0).1
    rw [hc0] at e1; injection e1 with e1; subst e1
    rw [Array.getD_eq_getD_getElem?, e2]; exact .d e3
  · have := run_var (P := E.P) (w := w') (t := t) (ad := ⟨b, off, none⟩) (f := fun j => arr.getD (off + j) undef) (isagg ht w') (szo ht w') (fun j hj => by
      obtain ⟨c', rv, e1, e2, e3⟩ := hin j (by rw [hN]; exact hj)
      rw [Addr.add_lit, cell_of_arr ((hw rfl).le g1), Array.getD_eq_getD_getElem?, e2]; rfl)
    simp only [execOp, ho, Instr.loadAt, h2, Instr.sureAddr, Sem.run_bind, Sem.run_pure, Result.andThen_ok, this]
theorem SR.evD (r : SR k B U m s h a w) {x : Operand} {d : D} (hv : evO s x = some (.d d)) : DR U w d (a.eval x) := by
  have h1 := r.opnd hv
  generalize a.eval x = y at h1
  cases h1 with | d h1 => exact h1
theorem Yl.loadL {cs l : List D} (ho : o.op = .load t x) (ht : lk E.tab t = some ⟨td, tz, tb, tr⟩) (hx : evO s x = some (.d (.lptr cs)))
    (hl : cs.take (bif aggD td then tz else 1) = l) (hz : Nat.beq l.length (bif aggD td then tz else 1) = true) : Yl true E k B s h o (mk (aggD td) (l.map .d)) := fun U m a w r => by
  have h1 := r.evD hx
  generalize hv : a.eval x = v at h1
  cases h1 with | @lptr _ ad f hu ha hv2 =>
  have hz' := Nat.eq_of_beq_eq_true hz
  have hin : ∀ j c, l[j]? = some c → cs[j]? = some c := fun j c hc => by
    have := take_get (l := cs) (off := 0) (by simpa using hl) hc
    simpa using this
  have hN : l.length = if aggD td = true then tz else 1 := by rw [hz']; cases aggD td <;> rfl
  refine ⟨_, mk_ok (f := f) (by rw [List.length_map]; exact hN) (fun j c hc => ?_), fun w' hw => ?_⟩
  · rw [List.getElem?_map] at hc
    obtain ⟨c0, hc0, rfl⟩ := Option.map_eq_some_iff.1 hc
    exact .d (hv2 j c0 (hin j c0 hc0))
  · have := run_var (P := E.P) (w := w') (t := t) (ad := ad) (f := f) (isagg ht w') (szo ht w') (fun j hj => (hw rfl).cell (ha j (by
      have hj' : j < l.length := by rw [hN]; exact hj
      exact (List.getElem?_eq_some_iff.1 (hin j _ (List.getElem?_eq_getElem hj'))).1)))
    simp only [execOp, ho, Instr.loadAt, hv, Instr.sureAddr, Sem.run_bind, Sem.run_pure, Result.andThen_ok, this]

/-- Fields. -/
theorem run_place {P : Program} {w : World} {ad : Addr} {f : Field} {z : Nat} (hs : (sizeOf f.type).run P w = .ok z w) (hz : z ≠ 0) : (fieldPlace ad f).run P w = .ok (ad.add f.offset) w := by
  unfold fieldPlace
  simp [hs, hz]
theorem Yl.fieldAddr {id off i : Nat} {fs : Array Field} {f : Field} {fd : TypeDesc} {fz fb : Nat} {fr : Option Value} (ho : o.op = .fieldAddr t x i) (ht : lk E.tab t = some ⟨td, tz, tb, tr⟩) (hd : td = .struct fs) (hf : fs[i]? = some f) (htf : lk E.tab f.type = some ⟨fd, fz, fb, fr⟩) (hz : Nat.beq fz 0 = false)
    (hx : evO s x = some (.ptr id off)) : Yl ρ E k B s h o (.ptr id (off + f.offset)) := fun U m a w r => by
  obtain ⟨b, h1, h2, h3⟩ := r.evPtr hx
  refine ⟨_, .ptr h3 h1, fun w' _ => ?_⟩
  have hp := run_place (P := E.P) (w := w') (ad := ⟨b, off, none⟩) (szo htf w') (ne_of_beq hz)
  have hu := und ht w'
  rw [hd] at hu
  rw [Addr.add_lit] at hp
  simp [execOp, ho, Instr.fieldAt, h2, Instr.sureAddr, hu, hf, hp]
theorem Yl.fieldAddrL {i : Nat} {cs : List D} {fs : Array Field} {f : Field} {fd : TypeDesc} {fz fb : Nat} {fr : Option Value} (ho : o.op = .fieldAddr t x i) (ht : lk E.tab t = some ⟨td, tz, tb, tr⟩) (hd : td = .struct fs) (hf : fs[i]? = some f) (htf : lk E.tab f.type = some ⟨fd, fz, fb, fr⟩) (hz : Nat.beq fz 0 = false)
    (hx : evO s x = some (.d (.lptr cs))) : Yl ρ E k B s h o (.d (.lptr (cs.drop f.offset))) := fun U m a w r => by
  have h1 := r.evD hx
  generalize hv : a.eval x = v at h1
  cases h1 with | @lptr _ ad g hu ha hv2 =>
  have add2 : ∀ j, (ad.add f.offset).add j = ad.add (f.offset + j) := fun j => by
    unfold Addr.add; split <;> split <;> split <;> simp_all [Nat.add_assoc]
  refine ⟨.pointer (some (ad.add f.offset)), .d (.lptr (fun j => g (f.offset + j)) (by rw [add_block]; exact hu) (fun j hj => by rw [add2]; exact ha _ (by rw [List.length_drop] at hj; omega)) (fun j c hc => hv2 _ c (by rw [List.getElem?_drop] at hc; exact hc))), fun w' _ => ?_⟩
  have hp := run_place (P := E.P) (w := w') (ad := ad) (szo htf w') (ne_of_beq hz)
  have hu := und ht w'
  rw [hd] at hu
  simp [execOp, ho, Instr.fieldAt, hv, Instr.sureAddr, hu, hf, hp]
/-- Elements. -/
theorem Yl.indexA {id off len : Nat} {e : TypeId} {ed : TypeDesc} {ez eb : Nat} {er : Option Value} {q : IntKind} {i : Int} (ho : o.op = .indexAddr t x y) (ht : lk E.tab t = some ⟨td, tz, tb, tr⟩) (hd : td = .array len e) (hte : lk E.tab e = some ⟨ed, ez, eb, er⟩) (hx : evO s x = some (.ptr id off)) (hy : evO s y = some (.d (.int q i))) (h0 : 0 ≤ i) (h1 : i < len) : Yl ρ E k B s h o (.ptr id (off + i.toNat * ez)) := fun U m a w r => by
  obtain ⟨b, g1, g2, g3⟩ := r.evPtr hx
  refine ⟨_, .ptr g3 g1, fun w' _ => ?_⟩
  have hu := und ht w'
  rw [hd] at hu
  simp [execOp, ho, Instr.indexAt, g2, Instr.sureAddr, hu, r.evInt hy, asIntOf, h0, h1, szo hte w', Addr.add_lit]
theorem Yl.indexS {e id off len : Nat} {el : TypeId} {ed : TypeDesc} {ez eb : Nat} {er : Option Value} {q : IntKind} {i : Int} (ho : o.op = .indexAddr t x y) (ht : lk E.tab t = some ⟨td, tz, tb, tr⟩) (hd : td = .slice el) (hte : lk E.tab el = some ⟨ed, ez, eb, er⟩) (hx : evO s x = some (.sl e id off len)) (hy : evO s y = some (.d (.int q i))) (h0 : 0 ≤ i) (h1 : i < len) : Yl ρ E k B s h o (.ptr id (off + i.toNat * ez)) := fun U m a w r => by
  have h2 := r.opnd hx
  generalize hv : a.eval x = v at h2
  cases h2 with
  | sl0 => omega
  | sl hid hm hk hc hz hs =>
  refine ⟨_, .ptr hid hm, fun w' _ => ?_⟩
  have hu := und ht w'
  rw [hd] at hu
  simp [execOp, ho, Instr.indexAt, hv, hu, r.evInt hy, asIntOf, h0, h1, szo hte w', Addr.add_lit]
theorem Yl.indexL {n : Nat} {cs el : List D} {e : TypeId} {ed : TypeDesc} {ez eb : Nat} {er : Option Value} {q : IntKind} {i : Int} (ho : o.op = .indexAddr t x y) (ht : lk E.tab t = some ⟨td, tz, tb, tr⟩) (hd : td = .slice e) (hte : lk E.tab e = some ⟨ed, ez, eb, er⟩) (hx : evO s x = some (.d (.lst n cs))) (hy : evO s y = some (.d (.int q i))) (h0 : 0 ≤ i) (h1 : i < n)
    (hl : (cs.drop (i.toNat * ez)).take ez = el) (hne : 0 < el.length) : Yl ρ E k B s h o (.d (.lptr el)) := fun U m a w r => by
  have h2 := r.evD hx
  generalize hv : a.eval x = v at h2
  cases h2 with | @lst _ _ A cap g hk hc ha hv2 =>
  have h3 : i.toNat * ez < cs.length := by
    have := hl ▸ hne
    simp only [List.length_take, List.length_drop] at this
    omega
  obtain ⟨ad, rfl, hu, _⟩ := ha _ h3
  have add2 : ∀ o j, (ad.add o).add j = ad.add (o + j) := fun o j => by
    unfold Addr.add; split <;> split <;> split <;> simp_all [Nat.add_assoc]
  have hin : ∀ j c, el[j]? = some c → cs[i.toNat * ez + j]? = some c := fun j c hc => take_get hl hc
  refine ⟨.pointer (some (ad.add (i.toNat * ez))), .d (.lptr (fun j => g (i.toNat * ez + j)) (by rw [add_block]; exact hu) (fun j hj => ?_) (fun j c hc => hv2 _ c (hin j c hc))), fun w' _ => ?_⟩
  · obtain ⟨ad', e1, _, e3⟩ := ha (i.toNat * ez + j) ((List.getElem?_eq_some_iff.1 (hin j _ (List.getElem?_eq_getElem hj))).1)
    injection e1 with e1; subst e1
    rw [add2]; exact e3
  · have hu := und ht w'
    rw [hd] at hu
    simp [execOp, ho, Instr.indexAt, hv, hu, r.evInt hy, asIntOf, h0, h1, szo hte w']
theorem Yl.indexLA {len : Nat} {cs el : List D} {e : TypeId} {ed : TypeDesc} {ez eb : Nat} {er : Option Value} {q : IntKind} {i : Int} (ho : o.op = .indexAddr t x y) (ht : lk E.tab t = some ⟨td, tz, tb, tr⟩) (hd : td = .array len e) (hte : lk E.tab e = some ⟨ed, ez, eb, er⟩) (hx : evO s x = some (.d (.lptr cs))) (hy : evO s y = some (.d (.int q i))) (h0 : 0 ≤ i) (h1 : i < len)
    (hl : (cs.drop (i.toNat * ez)).take ez = el) : Yl ρ E k B s h o (.d (.lptr el)) := fun U m a w r => by
  have h2 := r.evD hx
  generalize hv : a.eval x = v at h2
  cases h2 with | @lptr _ ad g hu ha hv2 =>
  have add2 : ∀ o j, (ad.add o).add j = ad.add (o + j) := fun o j => by
    unfold Addr.add; split <;> split <;> split <;> simp_all [Nat.add_assoc]
  have hin : ∀ j c, el[j]? = some c → cs[i.toNat * ez + j]? = some c := fun j c hc => take_get hl hc
  refine ⟨.pointer (some (ad.add (i.toNat * ez))), .d (.lptr (fun j => g (i.toNat * ez + j)) (by rw [add_block]; exact hu) (fun j hj => ?_) (fun j c hc => hv2 _ c (hin j c hc))), fun w' _ => ?_⟩
  · rw [add2]; exact ha _ ((List.getElem?_eq_some_iff.1 (hin j _ (List.getElem?_eq_getElem hj))).1)
  · have hu := und ht w'
    rw [hd] at hu
    simp [execOp, ho, Instr.indexAt, hv, Instr.sureAddr, hu, r.evInt hy, asIntOf, h0, h1, szo hte w']
/-- Lengths. -/
theorem lenR {n : Nat} (h : n ≤ maxLen) : inR .i64 (n : Int) := by
  rw [inR_iff]; simp only [loK, hiK]; unfold maxLen at h; omega
theorem zeroR : inR .i64 0 := by rw [inR_iff]; simp [loK, hiK]
theorem Yl.lenL {n : Nat} {cs : List D} {ats : Array TypeId} {el : TypeId} (ho : o.op = .call { callee := .builtin .len, args := #[x], argTypes := ats }) (ha : ats[0]? = some t) (ht : lk E.tab t = some ⟨td, tz, tb, tr⟩) (hd : td = .slice el) (hx : evO s x = some (.d (.lst n cs))) : Yl ρ E k B s h o (vi n) := fun U m a w r => by
  have h2 := r.evD hx
  generalize hv : a.eval x = v at h2
  cases h2 with | lst f hk hc g1 g2 =>
  refine ⟨_, .d (.int .i64 n (lenR (Nat.le_trans hk hc))), fun w' _ => ?_⟩
  have hu := und ht w'
  rw [hd] at hu
  simp [execOp, ho, resolve, invoke, builtin, Builtin.len_, ha, hu, hv, goInt]
theorem Yl.lenN {ats : Array TypeId} {el : TypeId} (ho : o.op = .call { callee := .builtin .len, args := #[x], argTypes := ats }) (ha : ats[0]? = some t) (ht : lk E.tab t = some ⟨td, tz, tb, tr⟩) (hd : td = .slice el) (hx : evO s x = some (.d .nsl)) : Yl ρ E k B s h o (vi 0) := fun U m a w r => by
  have h2 := r.evD hx
  generalize hv : a.eval x = v at h2
  cases h2
  refine ⟨_, .d (.int .i64 0 zeroR), fun w' _ => ?_⟩
  have hu := und ht w'
  rw [hd] at hu
  simp [execOp, ho, resolve, invoke, builtin, Builtin.len_, ha, hu, hv, goInt]
theorem Yl.lenS {e id off n : Nat} {ats : Array TypeId} {el : TypeId} (ho : o.op = .call { callee := .builtin .len, args := #[x], argTypes := ats }) (ha : ats[0]? = some t) (ht : lk E.tab t = some ⟨td, tz, tb, tr⟩) (hd : td = .slice el) (hx : evO s x = some (.sl e id off n)) : Yl ρ E k B s h o (vi n) := fun U m a w r => by
  have h2 := r.opnd hx
  generalize hv : a.eval x = v at h2
  have hu : ∀ w', (underlying t).run E.P w' = .ok (.slice el) w' := fun w' => by have hu := und ht w'; rw [hd] at hu; exact hu
  cases h2 with
  | sl hid hm hk hc hz hs => exact ⟨_, .d (.int .i64 _ (lenR (Nat.le_trans hk hc))), fun w' _ => by simp [execOp, ho, resolve, invoke, builtin, Builtin.len_, ha, hu, hv, goInt]⟩
  | sl0 => exact ⟨_, .d (.int .i64 _ zeroR), fun w' _ => by simp [execOp, ho, resolve, invoke, builtin, Builtin.len_, ha, hu, hv, goInt]⟩
theorem Yl.lenStr {b : ByteArray} {ats : Array TypeId} (ho : o.op = .call { callee := .builtin .len, args := #[x], argTypes := ats }) (ha : ats[0]? = some t) (ht : lk E.tab t = some ⟨td, tz, tb, tr⟩) (hd : td = .string) (hx : evO s x = some (.d (.str b))) : Yl ρ E k B s h o (vi b.size) := fun U m a w r => by
  have hb : b.size ≤ maxLen := by
    have h1 := r.opnd hx
    generalize a.eval x = y at h1
    cases h1 with | d h1 => cases h1; assumption
  refine ⟨_, .d (.int .i64 _ (lenR hb)), fun w' _ => ?_⟩
  have hu := und ht w'
  rw [hd] at hu
  simp [execOp, ho, resolve, invoke, builtin, Builtin.len_, ha, hu, r.evStr hx, goInt]
theorem Yl.extract {i : Nat} {vs : List V} (ho : o.op = .extract x i) (hx : evO s x = some (.tup vs)) (hi : vs[i]? = some v) : Yl ρ E k B s h o v := fun U m a w r => by
  have h2 := r.opnd hx
  generalize hv : a.eval x = y at h2
  cases h2 with | @tup _ rs hl hh =>
  have hj : i < rs.size := by rw [← hl]; exact (List.getElem?_eq_some_iff.1 hi).1
  exact ⟨rs[i], hh i v _ hi (Array.getElem?_eq_getElem hj), fun w' _ => by simp [execOp, ho, hv, Instr.extract, Array.getElem?_eq_getElem hj]⟩
theorem Yl.convInt {q q' : IntKind} {i c : Int} (ho : o.op = .convert u t x) (ht : lk E.tab t = some ⟨td, tz, tb, tr⟩) (hd : td = .int q') {ud : TypeDesc} {uz ub : Nat} {ur : Option Value} (htu : lk E.tab u = some ⟨ud, uz, ub, ur⟩) (hx : evO s x = some (.d (.int q i))) (hc : q'.wrap i = c) : Yl ρ E k B s h o (.d (.int q' c)) := fun U m a w r =>
  ⟨_, .d (.int q' c (hc ▸ wrapR q' _)), fun w' _ => by
    have hu := und ht w'; rw [hd] at hu
    have hu2 := und htu w'
    have e : (match ud, TypeDesc.int q', (Value.int q i) with | _, .int k, .int _ n => Conv.intToInt k n | _, _, _ => Conv.intToInt q' i) = Conv.intToInt q' i := by cases ud <;> rfl
    simp only [execOp, ho, convert, r.evInt hx, Sem.run_bind, hu2, hu, Result.andThen_ok]
    cases ud <;> simp [Conv.intToInt, hc]⟩
/-- A kind whose numbers another one holds. -/
def widens : IntKind → IntKind → Bool
  | .i64, .i64 | .i32, .i64 | .i16, .i64 | .i8, .i64 | .u32, .i64 | .u16, .i64 | .u8, .i64 => true
  | .u64, .u64 | .u32, .u64 | .u16, .u64 | .u8, .u64 => true
  | .u32, .u32 | .u16, .u32 | .u8, .u32 | .u16, .u16 | .u8, .u16 | .u8, .u8 => true
  | .i32, .i32 | .i16, .i16 | .i8, .i8 => true
  | _, _ => false
theorem widens_in {q q' : IntKind} {i : Int} (h : widens q q' = true) (hi : inR q i) : inR q' i := by
  rw [inR_iff] at hi ⊢
  cases q <;> cases q' <;> first | (exact absurd h (by decide)) | (simp only [loK, hiK] at hi ⊢; omega)
theorem Yl.convKeep {q q' : IntKind} {i : Int} (ho : o.op = .convert u t x) (ht : lk E.tab t = some ⟨td, tz, tb, tr⟩) (hd : td = .int q') {ud : TypeDesc} {uz ub : Nat} {ur : Option Value} (htu : lk E.tab u = some ⟨ud, uz, ub, ur⟩) (hx : evO s x = some (.d (.int q i))) (hw : widens q q' = true) : Yl ρ E k B s h o (.d (.int q' i)) := fun U m a w r =>
  Yl.convInt ho ht hd htu hx (wrap_eq (widens_in hw (r.evIntR hx))) U m a w r
/-- A part of a struct or an array. -/
theorem run_part {P : Program} {w : World} {t : TypeId} {vs : Array Value} {off z : Nat} {g : Bool} (hg : (isAgg t).run P w = .ok g w) (hs : (sizeOf t).run P w = .ok z w) (hl : off + (if g then z else 1) ≤ vs.size) :
    (part t vs off).run P w = .ok (if g then .agg ((List.range z).map (fun j => vs.getD (off + j) undef)).toArray else vs.getD (off + 0) undef) w := by
  unfold part
  rw [Sem.run_bind, hg]
  cases g
  · simp only [Bool.false_eq_true, if_false] at hl ⊢
    have : vs[off]? = some vs[off] := Array.getElem?_eq_getElem (by omega)
    simp [this, Array.getD_eq_getD_getElem?]
  · simp only [if_true] at hl ⊢
    simp only [Result.andThen_ok, if_true, Sem.run_bind, hs, Sem.run_pure]
    congr 2
    apply Array.ext
    · simp; omega
    · intro j h1 h2
      simp only [Array.size_extract] at h1
      rw [Array.getElem_extract]
      have : off + j < vs.size := by omega
      simp [Array.getElem?_eq_getElem this]
theorem part_ok {n : Nat} {cs l : List V} {vs : Array Value} {g : Bool} {z off : Nat} (hl : cs.length = vs.size) (hv : ∀ (j : Nat) (c : V) (v : Value), cs[j]? = some c → vs[j]? = some v → VR U m n w c v)
    (h1 : (cs.drop off).take (bif g then z else 1) = l) (h2 : Nat.beq l.length (bif g then z else 1) = true) : VR U m n w (mk g l) (if g then .agg ((List.range z).map (fun j => vs.getD (off + j) undef)).toArray else vs.getD (off + 0) undef) ∧ (0 < (bif g then z else 1) → off + (if g then z else 1) ≤ vs.size) := by
  have hz := Nat.eq_of_beq_eq_true h2
  have hN : l.length = if g = true then z else 1 := by rw [hz]; cases g <;> rfl
  have hin : ∀ j c, l[j]? = some c → cs[off + j]? = some c := fun j c hc => take_get h1 hc
  refine ⟨mk_ok (f := fun j => vs.getD (off + j) undef) hN (fun j c hc => ?_), fun hp => ?_⟩
  · have h3 := hin j c hc
    have h4 : off + j < vs.size := by rw [← hl]; exact (List.getElem?_eq_some_iff.1 h3).1
    have := hv _ c _ h3 (Array.getElem?_eq_getElem h4)
    rwa [Array.getD_eq_getD_getElem?, Array.getElem?_eq_getElem h4]
  · rw [← hN]
    have h3 : l.length - 1 < l.length := by omega
    have h4 := (List.getElem?_eq_some_iff.1 (hin _ _ (List.getElem?_eq_getElem h3))).1
    omega
theorem Yl.field {i : Nat} {cs l : List V} {fs : Array Field} {f : Field} {fd : TypeDesc} {fz fb : Nat} {fr : Option Value} (ho : o.op = .field t x i) (ht : lk E.tab t = some ⟨td, tz, tb, tr⟩) (hd : td = .struct fs) (hf : fs[i]? = some f) (htf : lk E.tab f.type = some ⟨fd, fz, fb, fr⟩) (hp : Nat.blt 0 (bif aggD fd then fz else 1) = true)
    (hx : evO s x = some (.agg cs)) (hl : (cs.drop f.offset).take (bif aggD fd then fz else 1) = l) (hz : Nat.beq l.length (bif aggD fd then fz else 1) = true) : Yl ρ E k B s h o (mk (aggD fd) l) := fun U m a w r => by
  have h2 := r.opnd hx
  generalize hv : a.eval x = y at h2
  cases h2 with | @agg _ rs hln hh =>
  obtain ⟨h3, h4⟩ := part_ok hln hh hl hz
  refine ⟨_, h3, fun w' _ => ?_⟩
  have hu := und ht w'
  rw [hd] at hu
  have := run_part (P := E.P) (vs := rs) (off := f.offset) (isagg htf w') (szo htf w') (h4 (Nat.le_of_ble_eq_true hp))
  simp [execOp, ho, hv, Instr.field, hu, hf, asAgg, this]
theorem Yl.index {len : Nat} {cs l : List V} {e : TypeId} {ed : TypeDesc} {ez eb : Nat} {er : Option Value} {q : IntKind} {i : Int} (ho : o.op = .index t x y) (ht : lk E.tab t = some ⟨td, tz, tb, tr⟩) (hd : td = .array len e) (hte : lk E.tab e = some ⟨ed, ez, eb, er⟩) (hp : Nat.blt 0 (bif aggD ed then ez else 1) = true)
    (hx : evO s x = some (.agg cs)) (hy : evO s y = some (.d (.int q i))) (h0 : 0 ≤ i) (h1 : i < len) (hl : (cs.drop (i.toNat * ez)).take (bif aggD ed then ez else 1) = l) (hz : Nat.beq l.length (bif aggD ed then ez else 1) = true) : Yl ρ E k B s h o (mk (aggD ed) l) := fun U m a w r => by
  have h2 := r.opnd hx
  generalize hv : a.eval x = y at h2
  cases h2 with | @agg _ rs hln hh =>
  obtain ⟨h3, h4⟩ := part_ok hln hh hl hz
  refine ⟨_, h3, fun w' _ => ?_⟩
  have hu := und ht w'
  rw [hd] at hu
  have := run_part (P := E.P) (vs := rs) (off := i.toNat * ez) (isagg hte w') (szo hte w') (h4 (Nat.le_of_ble_eq_true hp))
  simp [execOp, ho, hv, Instr.index, hu, r.evInt hy, asIntOf, h0, h1, szo hte w', this]
end
end Go.Proofs.Ytmgckodihnmjoaa
