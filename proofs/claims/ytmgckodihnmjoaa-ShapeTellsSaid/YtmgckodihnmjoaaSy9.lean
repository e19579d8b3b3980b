/-
  The logic's rules: literals of slices, stores, parts of slices, rows that are begun, rows that nobody writes any more. Conditions: none.
-/
import Derived.Test.YtmgckodihnmjoaaSy8
set_option linter.unusedVariables false
set_option linter.unusedSimpArgs false
set_option maxRecDepth 20000
namespace Go.Proofs.Ytmgckodihnmjoaa
open Go.RowKit

def unD : List V → Option (List D)
  | [] => some []
  | .d x :: r => (unD r).map (x :: ·)
  | _ :: _ => none
theorem unD_ok : ∀ {l : List V} {ds : List D}, unD l = some ds → l = ds.map .d
  | [], ds, h => by simp only [unD, Option.some.injEq] at h; subst h; rfl
  | .d x :: r, ds, h => by
    simp only [unD] at h
    obtain ⟨ds', h1, rfl⟩ := Option.map_eq_some_iff.1 h
    rw [List.map_cons, ← unD_ok h1]
  | .un :: r, ds, h => by cases h
  | .sl .. :: r, ds, h => by cases h
  | .ptr .. :: r, ds, h => by cases h
  | .el .. :: r, ds, h => by cases h
  | .map _ :: r, ds, h => by cases h
  | .fn .. :: r, ds, h => by cases h
  | .ifc .. :: r, ds, h => by cases h
  | .agg _ :: r, ds, h => by cases h
  | .tup _ :: r, ds, h => by cases h
theorem unD_map (ds : List D) : unD (ds.map .d) = some ds := by
  induction ds with
  | nil => rfl
  | cons x r ih => simp only [List.map_cons, unD, ih]; rfl
def dput (l : List D) (off : Nat) (new : List D) : List D := l.take off ++ new ++ l.drop (off + new.length)
theorem lput_map (l new : List D) (off : Nat) : lput (l.map .d) off (new.map .d) = (dput l off new).map .d := by
  simp [lput, dput, List.map_take, List.map_drop]

/-- Zero cells. -/
def vzero (n : Nat) (zl : List V) : List V := (List.range n).map fun i => zl.getD (i % zl.length) .un

section
variable {E : Env} {k B : Nat} {s s' : Slots} {h h' : Hp} {Q Q' : Post} {U : Nat → Prop} {m : Nat → Option Nat} {a : Act} {w w' : World} {o : Oper} {v : V} {d : Nat} {t : TypeId} {td : TypeDesc} {tz tb : Nat} {tr : Option Value} {x y : Operand}

theorem zeros_pw {z : Array Value} {zl : List V} {n q : Nat} (hl : absL z.toList = some zl) (hp : n = 0 ∨ 0 < z.size) : PW (VR U m q w) (vzero n zl) ((Array.range n).map (z[· % z.size]!)).toList := by
  obtain ⟨h1, h2⟩ := absL_ok (U := U) (m := m) (n := q) (w := w) hl
  simp only [Array.length_toList] at h1
  refine ⟨by simp [vzero], fun j c v hc hv => ?_⟩
  simp only [vzero, List.getElem?_map] at hc
  obtain ⟨i, hi, rfl⟩ := Option.map_eq_some_iff.1 hc
  obtain ⟨hj, h3⟩ := List.getElem?_eq_some_iff.1 hi
  simp at hj h3; subst h3
  have hp' : 0 < z.size := hp.resolve_left (by omega)
  have hlt : j % z.size < z.size := Nat.mod_lt _ hp'
  simp only [Array.toList_map, List.getElem?_map, Array.toList_range] at hv
  rw [List.getElem?_range hj] at hv
  simp only [Option.map_some, Option.some.injEq] at hv
  subst hv
  rw [getElem!_pos z _ hlt]
  refine h2 (j % z.size) _ _ ?_ (by simp [hlt])
  rw [List.getD_eq_getElem?_getD, h1, List.getElem?_eq_getElem (by omega)]; rfl
theorem run_buildSlice {P : Program} {t e : TypeId} {len sz : Nat} {z : Value} {parts : Array (Nat × Value)} {cells : Array Value} (w : World) (hu : (underlying t).run P w = .ok (.slice e) w) (hs : (sizeOf e).run P w = .ok sz w) (hz : (zeroValue e).run P w = .ok z w) (hb : len * sz ≤ 2 ^ 24)
    (hf : Instr.fill (fun i => some (i * sz, sz)) ((Array.range (len * sz)).map ((if len * sz = 0 then #[] else z.cells)[· % (if len * sz = 0 then #[] else z.cells).size]!)) parts.toList = some cells) :
    (Instr.buildSlice t len parts).run P w = .ok (.slice (some ⟨w.heap.size, 0, none⟩) len len) (w.alloc (.cells cells e)) := by
  have hb' : ¬ (len * sz > 2 ^ 24) := by omega
  unfold Instr.buildSlice
  simp only [Sem.run_bind, hu, Result.andThen_ok, hs, if_neg hb', Sem.run_pure]
  by_cases h0 : len * sz = 0
  · rw [if_pos h0] at hf
    simp only [h0, if_true, Sem.run_pure, Result.andThen_ok] at hf ⊢
    simp only [hf, newRow, newObj, Sem.run_bind, Sem.run, Result.andThen_ok, Sem.run_pure]; rfl
  · rw [if_neg h0] at hf
    simp only [h0, if_false, Sem.run_bind, hz, Sem.run_pure, Result.andThen_ok, hf, newRow, newObj, Sem.run]; rfl
/-- What a literal of a slice comes to. -/
theorem slice_run {e : TypeId} {ed : TypeDesc} {ez eb : Nat} {er : Option Value} {len : Nat} {parts : Array (Nat × Operand)} {z : Value} {zl l : List V} (r : SR k B U m s h a w) (ho : o.op = .buildSlice t len parts) (ht : lk E.tab t = some ⟨td, tz, tb, tr⟩) (hd : td = .slice e) (hte : lk E.tab e = some ⟨ed, ez, eb, er⟩) (hz : er = some z) (hzl : absL z.cells.toList = some zl) (hzp : Nat.blt 0 z.cells.size = true)
    (hb : Nat.ble (len * ez) 16777216 = true) (hl : vfill (fun i => some (i * ez, ez)) s (vzero (len * ez) zl) parts.toList = some l) :
    ∃ cells : Array Value, (execOp a.eval o).run E.P w = .ok (.value (.slice (some ⟨w.heap.size, 0, none⟩) len len)) (w.alloc (.cells cells e)) ∧ PW (VR U m h.n w) l cells.toList := by
  have hu := und ht w
  rw [hd] at hu
  have hp : PW (VR U m h.n w) (vzero (len * ez) zl) ((Array.range (len * ez)).map ((if len * ez = 0 then #[] else z.cells)[· % (if len * ez = 0 then #[] else z.cells).size]!)).toList := by
    by_cases h0 : len * ez = 0
    · rw [h0]; exact ⟨by simp [vzero], fun j c v hc => by simp [vzero] at hc⟩
    · simp only [h0, if_false]
      exact zeros_pw hzl (.inr (Nat.le_of_ble_eq_true hzp))
  obtain ⟨cells', h1, h2⟩ := vfill_ok r (place := fun i => some (i * ez, ez)) parts.toList _ l _ hl hp
  have hr := run_buildSlice (P := E.P) (parts := parts.map fun p => (p.1, a.eval p.2)) (cells := cells') w hu (szo hte w) (zer hte hz w) (Nat.le_of_ble_eq_true hb) (by simpa using h1)
  exact ⟨cells', by simp only [execOp, ho, Sem.run_bind, hr, Result.andThen_ok, Sem.run_pure], h2⟩
theorem Ac.slice {c : Nat} {e : TypeId} {ed : TypeDesc} {ez eb : Nat} {er : Option Value} {len : Nat} {parts : Array (Nat × Operand)} {z : Value} {zl l : List V} (ho : o.op = .buildSlice t len parts) (hd : o.dst = some d) (hk : Nat.blt d k = true) (ht : lk E.tab t = some ⟨td, tz, tb, tr⟩) (hty : td = .slice e) (hte : lk E.tab e = some ⟨ed, ez, eb, er⟩) (hz : er = some z) (hzl : absL z.cells.toList = some zl) (hzp : Nat.blt 0 z.cells.size = true)
    (hb : Nat.ble (len * ez) 16777216 = true) (hl : vfill (fun i => some (i * ez, ez)) s (vzero (len * ez) zl) parts.toList = some l) (hll : Nat.beq l.length (len * ez) = true) (hsz : Nat.blt 0 ez = true) (hn : h.n = c) :
    Ac E k B true s h o ((d, .sl ez c 0 len) :: s) ⟨c + 1, (c, some (.cells l)) :: h.b⟩ :=
  Ac.grow (t := e) (rv := id) hd hk hn _ fun U m a w r => by
    obtain ⟨cells, h1, h2⟩ := slice_run r ho ht hty hte hz hzl hzp hb hl
    have e1 := h2.len
    have e2 := Nat.eq_of_beq_eq_true hll
    simp only [Array.length_toList] at e1
    have hm : len ≤ maxLen := by
      have := Nat.le_of_ble_eq_true hb
      have := Nat.le_mul_of_pos_right len (Nat.le_of_ble_eq_true hsz); simp only [maxLen]; omega
    exact ⟨cells, _, w, _, h1, rfl, rfl, rfl, rfl, ⟨by omega, fun j c v hc hv => h2.at_ j c v hc (by simpa using hv)⟩, fun U' m' n' g1 g2 g3 => .sl g1 g2 (Nat.le_refl _) hm g3 (by omega)⟩
/-- The same, of data, in a block of data. -/
theorem Ac.sliceDat {c : Nat} {e : TypeId} {ed : TypeDesc} {ez eb : Nat} {er : Option Value} {len : Nat} {parts : Array (Nat × Operand)} {z : Value} {zl l : List V} {ds : List D} (ho : o.op = .buildSlice t len parts) (hd : o.dst = some d) (hk : Nat.blt d k = true) (ht : lk E.tab t = some ⟨td, tz, tb, tr⟩) (hty : td = .slice e) (hte : lk E.tab e = some ⟨ed, ez, eb, er⟩) (hz : er = some z) (hzl : absL z.cells.toList = some zl) (hzp : Nat.blt 0 z.cells.size = true)
    (hb : Nat.ble (len * ez) 16777216 = true) (hl : vfill (fun i => some (i * ez, ez)) s (vzero (len * ez) zl) parts.toList = some l) (hll : Nat.beq l.length (len * ez) = true) (hsz : Nat.blt 0 ez = true) (hds : unD l = some ds) (hn : h.n = c) :
    Ac E k B true s h o ((d, .sl ez c 0 len) :: s) ⟨c + 1, (c, some (.dat ds)) :: h.b⟩ := fun U m a w r => by
  obtain ⟨nx, a', w', U', m', h1, h2, h3, h4, h5⟩ := Ac.slice ho hd hk ht hty hte hz hzl hzp hb hl hll hsz hn U m a w r
  subst hn
  have hl' : BlkIs (.dat ds) l := by rw [unD_ok hds]; exact .dat ds
  obtain ⟨hid, hbr⟩ := h3.heap.live h.n (.cells l) (lk_here _ _ _)
  have hbr' : BR U' m' (h.n + 1) w' (m' h.n) (.dat ds) := by
    generalize m' h.n = mx at hbr
    cases hbr with
    | cells hc => exact hl'.br hc
    | cells0 =>
      have : ds = [] := by simpa [unD] using hds.symm
      subst this; exact .dat0
  obtain ⟨r2, st2⟩ := h3.reblk (blk' := .dat ds) (lk_here _ _ _) hbr'
  have keep : ∀ i, lk ((h.n, some (Blk.dat ds)) :: (h.n, some (Blk.cells l)) :: h.b) i = lk ((h.n, some (Blk.dat ds)) :: h.b) i := fun i => by
    simp only [lk_cons]; split <;> rfl
  refine ⟨nx, a', w', U', m', h1, h2, ⟨r2.slots, r2.size, r2.defers, ⟨fun i bk g => r2.heap.live i bk (by rw [keep]; exact g), fun i bk x g => r2.heap.ok i bk x (by rw [keep]; exact g), fun i i' bk bk' x g g' => r2.heap.inj i i' bk bk' x (by rw [keep]; exact g) (by rw [keep]; exact g'), r2.heap.ulow⟩, r2.base⟩, ?_, h5⟩
  have st := h4.trans st2
  exact { st with own := fun x hx ⟨i, bk, g1, g2⟩ => st.own x hx ⟨i, bk, by rw [keep]; exact g1, g2⟩ }
/-- The same, of data that nobody will write. -/
theorem Ac.sliceD {e : TypeId} {ed : TypeDesc} {ez eb : Nat} {er : Option Value} {len : Nat} {parts : Array (Nat × Operand)} {z : Value} {zl l : List V} {ds : List D} (ho : o.op = .buildSlice t len parts) (hd : o.dst = some d) (hk : Nat.blt d k = true) (ht : lk E.tab t = some ⟨td, tz, tb, tr⟩) (hty : td = .slice e) (hte : lk E.tab e = some ⟨ed, ez, eb, er⟩) (hz : er = some z) (hzl : absL z.cells.toList = some zl) (hzp : Nat.blt 0 z.cells.size = true)
    (hb : Nat.ble (len * ez) 16777216 = true) (hl : vfill (fun i => some (i * ez, ez)) s (vzero (len * ez) zl) parts.toList = some l) (hsz : Nat.blt 0 ez = true) (hds : unD l = some ds) :
    Ac E k B true s h o ((d, .d (.lst len ds)) :: s) h := fun U m a w r => by
  obtain ⟨cells, h1, h2⟩ := slice_run r ho ht hty hte hz hzl hzp hb hl
  obtain ⟨r1, st1⟩ := r.growU (w' := w.alloc (.cells cells e)) (obj := .cells cells e) rfl rfl rfl rfl
  refine ⟨_, _, _, _, m, h1, .inl ⟨_, rfl, rfl⟩, ?_, st1.low r.base, fun _ x hx => push_old rfl hx⟩
  rw [hd]
  have hm : len ≤ maxLen := by
    have := Nat.le_of_ble_eq_true hb
    have := Nat.le_mul_of_pos_right len (Nat.le_of_ble_eq_true hsz); simp only [maxLen]; omega
  have hl' := unD_ok hds
  subst hl'
  have hlen := h2.len
  simp only [List.length_map, Array.length_toList] at hlen
  refine r1.put hk (.d (.lst (fun j => cells.getD j undef) (Nat.le_refl _) hm (fun j hj => ⟨_, rfl, .inr rfl, ?_⟩) (fun j c hc => ?_)))
  · rw [Addr.add_lit, Nat.zero_add, cell_of_arr (push_new rfl), Array.getD_eq_getD_getElem?, Array.getElem?_eq_getElem (by omega)]; rfl
  · have hj : j < cells.size := by rw [← hlen]; exact (List.getElem?_eq_some_iff.1 hc).1
    have := h2.at_ j (.d c) cells[j] (by rw [List.getElem?_map, hc]; rfl) (by simp [hj])
    rw [Array.getD_eq_getD_getElem?, Array.getElem?_eq_getElem hj]
    cases this with | d g => exact g.mono (fun _ h => .inl h) (fun x hx => push_old rfl (r.heap.ulow x hx))
/-- store. -/
theorem store_run {id off : Nat} {blk blk' : Blk} {bc : List V} (r : SR k B U m s h a w) (ho : o.op = .store t x y) (ht : lk E.tab t = some ⟨td, tz, tb, tr⟩) (hx : evO s x = some (.ptr id off)) (hb : lk h.b id = some (some blk)) (hbl : BlkIs blk bc) (hy : evO s y = some v) (hok : v.cs.all cellOk = true) (hz : Nat.beq v.cs.length tz = true)
    (hin : off + v.cs.length ≤ bc.length) (hbl' : BlkIs blk' (lput bc off v.cs)) :
    ∃ w', (execOp a.eval o).run E.P w = .ok .skip w' ∧ SR k B U m s ⟨h.n, (id, some blk') :: h.b⟩ a w' ∧ Stp h.n U m h.n h.b w U m h.n ((id, some blk') :: h.b) w' := by
  obtain ⟨b, h1, h2, h3⟩ := r.evPtr hx
  obtain ⟨_, hbr⟩ := r.heap.live id _ hb
  rw [h1] at hbr
  obtain ⟨arr, et, g1, g2, g3⟩ := hbl.cr hbr
  obtain ⟨c1, c2, c3⟩ := cs_ok (r.opnd hy) hok
  have hz' := Nat.eq_of_beq_eq_true hz
  have hst := run_storeCells_at (P := E.P) b off et (a.eval y).cells.toList 0 arr w g1 (by simp only [Array.length_toList]; omega) c3
  simp only [Nat.add_zero] at hst
  have hasz : (arr.toList.take off ++ (a.eval y).cells.toList ++ arr.toList.drop (off + (a.eval y).cells.toList.length)).toArray.size = arr.size := by
    simp only [List.size_toArray, List.length_append, List.length_take, List.length_drop, Array.length_toList]; omega
  have hU : ∀ z, U z → (w.setRow b (arr.toList.take off ++ (a.eval y).cells.toList ++ arr.toList.drop (off + (a.eval y).cells.toList.length)).toArray).heap[z]? = w.heap[z]? := fun z hz => setRow_other w b z _ (by rintro rfl; exact (r.heap.ok id blk z hb h1).1 hz)
  have hmo : ∀ c u, VR U m h.n w c u → VR U m h.n (w.setRow b (arr.toList.take off ++ (a.eval y).cells.toList ++ arr.toList.drop (off + (a.eval y).cells.toList.length)).toArray) c u := fun c u h5 => h5.mono (fun _ h => h) hU (fun x z hz => bsize_set g1 hasz hz) (Nat.le_refl _) (fun _ _ => rfl)
  obtain ⟨r2, st2⟩ := r.write (blk' := blk') hb h1 g1 hasz
    (hbl'.br ⟨_, et, setRow_same g1, by rw [hasz, lput_len hin]; exact g2, fun j c u hc hu => by
      have hu' : (arr.toList.take off ++ (a.eval y).cells.toList ++ arr.toList.drop (off + (a.eval y).cells.toList.length))[j]? = some u := by simpa using hu
      have t1 : (bc.take off).length = off := by rw [List.length_take]; omega
      have t2 : (arr.toList.take off).length = off := by rw [List.length_take, Array.length_toList]; omega
      have t3 : (a.eval y).cells.toList.length = v.cs.length := by rw [Array.length_toList]; exact c1.symm
      rcases get_append3' hc with ⟨a1, a2⟩ | ⟨a1, a2, a3⟩ | ⟨a1, a2⟩ <;> rcases get_append3' hu' with ⟨b1, b2⟩ | ⟨b1, b2, b3⟩ | ⟨b1, b2⟩ <;> try omega
      · rw [List.getElem?_take, if_pos (by omega)] at a2 b2; exact hmo c u (g3 j c u a2 (by simpa using b2))
      · rw [t1] at a3; rw [t2] at b3; exact hmo c u (c2 _ c u a3 (by simpa using b3))
      · rw [t1, List.getElem?_drop] at a2
        rw [t2, List.getElem?_drop] at b2
        refine hmo c u (g3 j c u ?_ ?_)
        · rwa [show off + v.cs.length + (j - (off + v.cs.length)) = j by omega] at a2
        · rw [t3, show off + v.cs.length + (j - (off + v.cs.length)) = j by omega] at b2; simpa using b2⟩)
  refine ⟨_, ?_, r2, st2⟩
  have hcs : ¬ ((a.eval y).cells.size ≠ tz) := by omega
  simp only [execOp, ho, Instr.storeAt, h2, Instr.sureAddr, Sem.run_bind, Sem.run_pure, Result.andThen_ok, storeVar, szo ht w, if_neg hcs, hst]
theorem Ac.store {id off : Nat} {bc : List V} (ho : o.op = .store t x y) (hd : o.dst = none) (ht : lk E.tab t = some ⟨td, tz, tb, tr⟩) (hx : evO s x = some (.ptr id off)) (hb : lk h.b id = some (some (.cells bc))) (hy : evO s y = some v) (hok : v.cs.all cellOk = true) (hz : Nat.beq v.cs.length tz = true)
    (hin : Nat.ble (off + v.cs.length) bc.length = true) : Ac E k B false s h o s ⟨h.n, (id, some (.cells (lput bc off v.cs))) :: h.b⟩ := fun U m a w r => by
  obtain ⟨w', h1, h2, h3⟩ := store_run r ho ht hx hb (.cells bc) hy hok hz (Nat.le_of_ble_eq_true hin) (.cells _)
  refine ⟨_, _, w', U, m, h1, .inr ⟨rfl, rfl⟩, ?_, h3.low r.base, fun h => by cases h⟩
  rw [hd]; exact h2
theorem Ac.storeD {id off : Nat} {bc ds : List D} (ho : o.op = .store t x y) (hd : o.dst = none) (ht : lk E.tab t = some ⟨td, tz, tb, tr⟩) (hx : evO s x = some (.ptr id off)) (hb : lk h.b id = some (some (.dat bc))) (hy : evO s y = some v) (hds : unD v.cs = some ds) (hz : Nat.beq v.cs.length tz = true)
    (hin : off + v.cs.length ≤ bc.length) : Ac E k B false s h o s ⟨h.n, (id, some (.dat (dput bc off ds))) :: h.b⟩ := fun U m a w r => by
  have hcs := unD_ok hds
  obtain ⟨w', h1, h2, h3⟩ := store_run (blk' := .dat (dput bc off ds)) r ho ht hx hb (.dat bc) hy (by rw [hcs]; exact all_d ds) hz (by simpa using hin) (by rw [hcs, lput_map]; exact .dat _)
  refine ⟨_, _, w', U, m, h1, .inr ⟨rfl, rfl⟩, ?_, h3.low r.base, fun h => by cases h⟩
  rw [hd]; exact h2

/-- A nil slice becomes a row without a block. -/
theorem SR.virt {tt e : Nat} (r : SR k B U m s h a w) (hv : lk s tt = some (.d .nsl)) :
    SR k B U (ext m h.n none) ((tt, .sl e h.n 0 0) :: s) ⟨h.n + 1, (h.n, some (.dat [])) :: h.b⟩ a w ∧ Stp h.n U m h.n h.b w U (ext m h.n none) (h.n + 1) ((h.n, some (.dat [])) :: h.b) w := by
  have hme : ∀ i, i < h.n → ext m h.n none i = m i := fun i hi => ext_ne (by omega)
  have st : Stp h.n U m h.n h.b w U (ext m h.n none) (h.n + 1) ((h.n, some (.dat [])) :: h.b) w :=
    { Stp.refl h.n U m h.n h.b w with
      hn := by omega, hm := hme, own := fun x hx ⟨id, bk, h1, h2⟩ => by
        rw [lk_cons] at h1
        split at h1
        · rename_i e; subst e; rw [ext_here] at h2; cases h2
        · have := (r.heap.live id bk h1).1
          rw [hme id this] at h2
          exact ⟨id, bk, h1, h2⟩ }
  have r1 : SR k B U (ext m h.n none) s ⟨h.n + 1, (h.n, some (.dat [])) :: h.b⟩ a w := r.stp st ⟨fun id bk h1 => by
      rw [lk_cons] at h1
      split at h1
      · rename_i e; subst e; injection h1 with h1; injection h1 with h1; subst h1
        exact ⟨Nat.lt_succ_self _, by rw [ext_here]; exact .dat0⟩
      · obtain ⟨g1, g2⟩ := r.heap.live id bk h1
        refine ⟨Nat.lt_succ_of_lt g1, ?_⟩
        rw [hme id g1]
        exact g2.mono (fun _ h => h) (fun _ _ => rfl) (fun _ _ h => h) (by show h.n ≤ h.n + 1; omega) hme (fun _ _ => rfl),
    fun id bk x h1 h2 => by
      rw [lk_cons] at h1
      split at h1
      · rename_i e; subst e; rw [ext_here] at h2; cases h2
      · have := (r.heap.live id bk h1).1
        rw [hme id this] at h2
        exact r.heap.ok id bk x h1 h2,
    fun id id' bk bk' x h1 h2 h3 h4 => by
      rw [lk_cons] at h1 h2
      split at h1
      · rename_i e; subst e; rw [ext_here] at h3; cases h3
      · split at h2
        · rename_i e; subst e; rw [ext_here] at h4; cases h4
        · have g := (r.heap.live id bk h1).1
          have g' := (r.heap.live id' bk' h2).1
          rw [hme id g] at h3; rw [hme id' g'] at h4
          exact r.heap.inj id id' bk bk' x h1 h2 h3 h4,
    r.heap.ulow⟩
  refine ⟨⟨fun t v hv2 => ?_, r1.size, r1.defers, r1.heap, r1.base⟩, st⟩
  rw [lk_cons] at hv2
  split at hv2
  · rename_i e; subst e; injection hv2 with hv2; subst hv2
    obtain ⟨x, h1, h2⟩ := r.slots _ _ hv
    cases h2 with | d h2 =>
    cases h2
    exact ⟨_, h1, .sl0 (Nat.lt_succ_self _) (ext_here _ _ _)⟩
  · exact r1.slots t v hv2
theorem T.virt {tt e : Nat} {c : Code} {n : Nat} (hv : lk s tt = some (.d .nsl)) (hn : h.n = n) (t : T E k B c ((tt, .sl e n 0 0) :: s) ⟨n + 1, (n, some (.dat [])) :: h.b⟩ Q) : T E k B c s h Q := fun U m a w r => by
  subst hn
  obtain ⟨r1, st⟩ := r.virt (e := e) hv
  exact wp_mono (t _ _ _ _ r1) fun e a2 w2 q => RP_trans (st.low r.base) q
theorem TO.virt {ops : Array Oper} {l : List Oper} {tt e : Nat} {n : Nat} (hv : lk s tt = some (.d .nsl)) (hn : h.n = n) (t : TO E k B ops l ((tt, .sl e n 0 0) :: s) ⟨n + 1, (n, some (.dat [])) :: h.b⟩ Q) : TO E k B ops l s h Q := fun U m a w r => by
  subst hn
  obtain ⟨r1, st⟩ := r.virt (e := e) hv
  exact RP.step' (st.low r.base) (t _ _ _ _ r1)
/-- A row of data that nobody writes any more. -/
theorem SR.freeze {tt e id off n : Nat} {cs l : List D} (r : SR k B U m s h a w) (hv : lk s tt = some (.sl e id off n)) (hb : lk h.b id = some (some (.dat cs))) (hl : (cs.drop off).take (n * e) = l) (hz : l.length = n * e) :
    ∃ U', SR k B U' m ((tt, .d (.lst n l)) :: dropS id s) ⟨h.n, (id, none) :: dropH id h.b⟩ a w ∧ Stp B U m h.n h.b w U' m h.n ((id, none) :: dropH id h.b) w := by
  obtain ⟨r1, st1⟩ := r.drop id
  have hbd : lk (dropH id h.b) id = some (some (.dat cs)) := by unfold dropH; rw [lk_map, hb]; rfl
  obtain ⟨_, hbr⟩ := r.heap.live id _ hb
  refine ⟨fun x => U x ∨ m id = some x, ?_⟩
  have hlow : ∀ x, m id = some x → x < w.heap.size := fun x hx => (r.heap.ok id _ x hb hx).2
  have st : Stp B U m h.n h.b w (fun x => U x ∨ m id = some x) m h.n ((id, none) :: dropH id h.b) w :=
    { Stp.refl B U m h.n h.b w with
      hU := fun _ h => .inl h, own := fun x hx ⟨i, bk, h1, h2⟩ => by
        rw [lk_cons] at h1
        split at h1
        · cases h1
        · obtain ⟨b0, h3, _⟩ := lk_dropH h1; exact ⟨i, b0, h3, h2⟩
      lim := fun x hx h => h.elim .inl (fun h => .inr ⟨id, _, hb, h⟩) }
  have hmo : ∀ {v : V} {r : Value}, VR U m h.n w v r → VR (fun x => U x ∨ m id = some x) m h.n w v r := fun h => h.mono (fun _ h => .inl h) (fun _ _ => rfl) (fun _ _ h => h) (Nat.le_refl _) (fun _ _ => rfl)
  refine ⟨⟨fun t v hv2 => ?_, r.size, r.defers, ⟨fun i bk h1 => ?_, fun i bk x h1 h2 => ?_, fun i i' bk bk' x h1 h2 h3 h4 => ?_, fun x hx => hx.elim (r.heap.ulow x) (hlow x)⟩, r.base⟩, st⟩
  · rw [lk_cons] at hv2
    split at hv2
    · rename_i e1; subst e1; injection hv2 with hv2; subst hv2
      obtain ⟨x, h1, h2⟩ := r.slots _ _ hv
      refine ⟨x, h1, ?_⟩
      cases h2 with
      | sl0 _ hm =>
        have : l = [] := List.eq_nil_of_length_eq_zero (by omega)
        subst this
        exact .d (DR.nil_lst .nsl)
      | @sl _ _ _ _ xx cap z _ hm hk hc hz2 hs =>
        rw [hm] at hbr
        cases hbr with | dat hbr =>
        obtain ⟨arr, et, g1, g2, g3⟩ := hbr
        have hin : ∀ j, j < l.length → ∃ c rv, l[j]? = some c ∧ arr[off + j]? = some rv ∧ DR U w c rv := fun j hj => by
          have e1 := List.getElem?_eq_getElem hj
          have e2 := take_get hl e1
          have e3 : off + j < arr.size := Nat.lt_of_lt_of_le (List.getElem?_eq_some_iff.1 e2).1 g2
          exact ⟨_, _, e1, Array.getElem?_eq_getElem e3, g3 _ _ _ e2 (Array.getElem?_eq_getElem e3)⟩
        refine .d (.lst (fun j => arr.getD (off + j) undef) hk hc (fun j hj => ⟨_, rfl, .inr hm, ?_⟩) (fun j c hc2 => ?_))
        · obtain ⟨c, rv, _, e2, _⟩ := hin j hj
          rw [Addr.add_lit, cell_of_arr g1, Array.getD_eq_getD_getElem?, e2]; rfl
        · obtain ⟨c', rv, e1, e2, e3⟩ := hin j (List.getElem?_eq_some_iff.1 hc2).1
          rw [hc2] at e1; injection e1 with e1; subst e1
          rw [Array.getD_eq_getD_getElem?, e2]
          exact e3.mono (fun _ h => .inl h) (fun _ _ => rfl)
    · obtain ⟨x, h1, h2⟩ := r1.slots t v hv2
      exact ⟨x, h1, hmo h2⟩
  · rw [lk_cons] at h1
    split at h1
    · cases h1
    · obtain ⟨g1, g2⟩ := r1.heap.live i bk h1
      exact ⟨g1, g2.mono (fun _ h => .inl h) (fun _ _ => rfl) (fun _ _ h => h) (Nat.le_refl _) (fun _ _ => rfl) (fun _ _ => rfl)⟩
  · rw [lk_cons] at h1
    split at h1
    · cases h1
    · rename_i hne
      obtain ⟨g1, g2⟩ := r1.heap.ok i bk x h1 h2
      exact ⟨fun hx => hx.elim g1 (fun hx => hne (r1.heap.inj id i _ _ x hbd h1 hx h2)), g2⟩
  · rw [lk_cons] at h1 h2
    split at h1
    · cases h1
    · split at h2
      · cases h2
      · exact r1.heap.inj i i' bk bk' x h1 h2 h3 h4
theorem T.freeze {tt e id off n : Nat} {cs l : List D} {c : Code} (hv : lk s tt = some (.sl e id off n)) (hb : lk h.b id = some (some (.dat cs))) (hl : (cs.drop off).take (n * e) = l) (hz : l.length = n * e)
    (t : T E k B c ((tt, .d (.lst n l)) :: dropS id s) ⟨h.n, (id, none) :: dropH id h.b⟩ Q) : T E k B c s h Q := fun U m a w r => by
  obtain ⟨U', r1, st⟩ := r.freeze hv hb hl hz
  exact wp_mono (t _ _ _ _ r1) fun e a2 w2 q => RP_trans st q
theorem TO.freeze {ops : Array Oper} {lo : List Oper} {tt e id off n : Nat} {cs l : List D} (hv : lk s tt = some (.sl e id off n)) (hb : lk h.b id = some (some (.dat cs))) (hl : (cs.drop off).take (n * e) = l) (hz : l.length = n * e)
    (t : TO E k B ops lo ((tt, .d (.lst n l)) :: dropS id s) ⟨h.n, (id, none) :: dropH id h.b⟩ Q) : TO E k B ops lo s h Q := fun U m a w r => by
  obtain ⟨U', r1, st⟩ := r.freeze hv hb hl hz
  exact RP.step' st (t _ _ _ _ r1)
end
end Go.Proofs.Ytmgckodihnmjoaa
