/-
  The logic's rule for append onto a row at hand. Conditions: none.
-/
import Derived.Test.YtmgckodihnmjoaaSy6
set_option linter.unusedVariables false
set_option linter.unusedSimpArgs false
set_option maxRecDepth 20000
namespace Go.Proofs.Ytmgckodihnmjoaa
open Go.RowKit

section
variable {E : Env} {k B : Nat} {s s' : Slots} {h h' : Hp} {Q Q' : Post} {U : Nat → Prop} {m : Nat → Option Nat} {a : Act} {w w' : World} {o : Oper} {v : V} {d : Nat} {t : TypeId} {td : TypeDesc} {tz tb : Nat} {tr : Option Value} {x y : Operand}

theorem run_room {P : Program} (w : World) (t ty e et : TypeId) (i : TypeInfo) (ht : P.underlying t = some (.slice e)) (hi : P.info? e = some i) (g sLen sCap : Nat) (cur : Array Value) (hg : w.heap[g]? = some (.cells cur et (0, 0)))
    (a : Addr) (n c : Nat) (news : List Value) (hl : news.length = n * i.size) (hnews : ∀ j u, news[j]? = some u → w.cell? (a.add j) = some u) (h1 : ∀ u ∈ news, u.oneCell' = true) (hroom : sLen + n ≤ sCap) (hfit : sLen * i.size + news.length ≤ cur.size) :
    (Builtin.append_ #[t, t] ty #[.slice (some ⟨g, 0, none⟩) sLen sCap, .slice (some a) n c]).run P w =
      .ok (.slice (some ⟨g, 0, none⟩) (sLen + n) sCap) (w.setRow g (cur.toList.take (sLen * i.size) ++ news ++ cur.toList.drop (sLen * i.size + news.length)).toArray) := by
  have hf := run_firstCells_some (P := P) w i.size n a n c news hl hnews
  have hst := run_storeCells_at (P := P) g (sLen * i.size) et news 0 cur w hg (by simpa using hfit) h1
  simp [Builtin.append_, run_underlying ht, sizeOf, typeInfo, hi, Builtin.lenOf, hroom, hf, Addr.add_lit, hst]
theorem run_none {P : Program} (w : World) (t ty e : TypeId) (i : TypeInfo) (ht : P.underlying t = some (.slice e)) (hi : P.info? e = some i) (b : Option Addr) (sLen sCap c : Nat) (hc : sLen ≤ sCap) :
    (Builtin.append_ #[t, t] ty #[.slice b sLen sCap, .slice none 0 c]).run P w = .ok (.slice b sLen sCap) w := by
  cases b <;> simp [Builtin.append_, run_underlying ht, sizeOf, typeInfo, hi, Builtin.lenOf, Builtin.firstCells, hc, storeCells]
theorem run_zero {P : Program} (w : World) (t ty e : TypeId) (i : TypeInfo) (ht : P.underlying t = some (.slice e)) (hi : P.info? e = some i) (a : Addr) (c : Nat) :
    (Builtin.append_ #[t, t] ty #[.slice none 0 0, .slice (some a) 0 c]).run P w = .ok (.slice none 0 0) w := by
  simp [Builtin.append_, run_underlying ht, sizeOf, typeInfo, hi, Builtin.lenOf, Builtin.firstCells, loadCells, loadCellsFrom]

/-- A block's cells. -/
inductive BlkIs : Blk → List V → Prop where
  | cells (l : List V) : BlkIs (.cells l) l
  | dat (l : List D) : BlkIs (.dat l) (l.map .d)
  | rows {n e : Nat} {f : Nat → List D} (hl : ∀ i, i < n → (f i).length = e) (h0 : flatN n f = [] → n = 0) : BlkIs (.rows n e f) ((flatN n f).map .d)
theorem BlkIs.br {n x : Nat} {blk : Blk} {l : List V} (h : BlkIs blk l) (c : CR (VR U m n w) w x l) : BR U m n w (some x) blk := by
  cases h with
  | cells => exact .cells c
  | dat l =>
    obtain ⟨arr, t, h1, h2, h3⟩ := c
    refine .dat ⟨arr, t, h1, by simpa using h2, fun j c v hc hv => ?_⟩
    have := h3 j (.d c) v (by rw [List.getElem?_map, hc]; rfl) hv
    cases this with | d h => exact h
  | rows hl h0 =>
    obtain ⟨arr, t, h1, h2, h3⟩ := c
    refine .rows hl ⟨arr, t, h1, by simpa using h2, fun j c v hc hv => ?_⟩
    have := h3 j (.d c) v (by rw [List.getElem?_map, hc]; rfl) hv
    cases this with | d h => exact h
theorem BlkIs.cr {n x : Nat} {blk : Blk} {l : List V} (h : BlkIs blk l) (c : BR U m n w (some x) blk) : CR (VR U m n w) w x l := by
  cases h with
  | cells => cases c with | cells c => exact c
  | dat l =>
    cases c with | dat c =>
    obtain ⟨arr, t, h1, h2, h3⟩ := c
    refine ⟨arr, t, h1, by simpa using h2, fun j c v hc hv => ?_⟩
    rw [List.getElem?_map] at hc
    obtain ⟨c0, hc0, rfl⟩ := Option.map_eq_some_iff.1 hc
    exact .d (h3 j c0 v hc0 hv)
  | rows hl h0 =>
    cases c with | rows _ c =>
    obtain ⟨arr, t, h1, h2, h3⟩ := c
    refine ⟨arr, t, h1, by simpa using h2, fun j c v hc hv => ?_⟩
    rw [List.getElem?_map] at hc
    obtain ⟨c0, hc0, rfl⟩ := Option.map_eq_some_iff.1 hc
    exact .d (h3 j c0 v hc0 hv)
theorem BlkIs.nil {n : Nat} {blk : Blk} {l : List V} (h : BlkIs blk l) (c : BR U m n w none blk) : l = [] := by
  cases h with
  | cells => cases c; rfl
  | dat l => cases c; rfl
  | rows hl h0 => cases c; rfl
theorem BlkIs.br0 {n : Nat} {blk : Blk} (h : BlkIs blk []) : BR U m n w none blk := by
  generalize hl : ([] : List V) = l at h
  cases h with
  | cells => subst hl; exact .cells0
  | dat l => have : l = [] := by simpa using hl.symm
             subst this; exact .dat0
  | rows _ h0 =>
    have := h0 (by simpa using hl.symm)
    subst this; exact .rows0
theorem BlkIs.lt {blk : Blk} {l : List V} (h : BlkIs blk l) {id : Nat} (hl : hasL id l = false) : dropB id (some blk) = some blk ∨ ∃ l', dropB id (some blk) = some (.cells l') ∧ l' = l := by
  cases h with
  | cells =>
    refine .inr ⟨_, rfl, ?_⟩
    induction l with
    | nil => rfl
    | cons c r ih =>
      simp only [hasL, Bool.or_eq_false_iff] at hl
      simp only [List.map_cons, ih hl.2]
      unfold dropV
      rw [hl.1]; rfl
  | dat => exact .inl rfl
  | rows => exact .inl rfl

/-- A block at hand is seen otherwise. -/
theorem SR.reblk {id : Nat} {blk blk' : Blk} (r : SR k B U m s h a w) (hb : lk h.b id = some (some blk)) (hbr : BR U m h.n w (m id) blk') :
    SR k B U m s ⟨h.n, (id, some blk') :: h.b⟩ a w ∧ Stp B U m h.n h.b w U m h.n ((id, some blk') :: h.b) w := by
  refine ⟨⟨r.slots, r.size, r.defers, ⟨fun i bk h1 => ?_, fun i bk y h1 h2 => ?_, fun i i' bk bk' y h1 h2 h3 h4 => ?_, r.heap.ulow⟩, r.base⟩, { Stp.refl B U m h.n h.b w with own := fun y _ ⟨i, bk, h1, h2⟩ => ?_ }⟩
  · rw [lk_cons] at h1
    split at h1
    · rename_i e; subst e; injection h1 with h1; injection h1 with h1; subst h1
      exact ⟨(r.heap.live _ _ hb).1, hbr⟩
    · exact r.heap.live i bk h1
  · rw [lk_cons] at h1
    split at h1
    · rename_i e; subst e; exact r.heap.ok _ blk y hb h2
    · exact r.heap.ok i bk y h1 h2
  · rw [lk_cons] at h1 h2
    split at h1
    · rename_i e; subst e
      split at h2
      · rename_i e; exact e
      · exact r.heap.inj _ _ blk bk' y hb h2 h3 h4
    · split at h2
      · rename_i e; subst e; exact r.heap.inj _ _ bk blk y h1 hb h3 h4
      · exact r.heap.inj _ _ bk bk' y h1 h2 h3 h4
  · rw [lk_cons] at h1
    split at h1
    · rename_i e; subst e; exact ⟨_, blk, hb, h2⟩
    · exact ⟨i, bk, h1, h2⟩
theorem get_append3 {l1 l2 l3 : List Value} {j : Nat} {u : Value} (h : (l1 ++ l2 ++ l3)[j]? = some u) : (j < l1.length ∧ l1[j]? = some u) ∨ (l1.length ≤ j ∧ j < l1.length + l2.length ∧ l2[j - l1.length]? = some u) ∨ l1.length + l2.length ≤ j := by
  by_cases h1 : j < l1.length
  · rw [List.append_assoc, List.getElem?_append_left h1] at h; exact .inl ⟨h1, h⟩
  · by_cases h2 : j < l1.length + l2.length
    · rw [List.append_assoc, List.getElem?_append_right (by omega), List.getElem?_append_left (by omega)] at h
      exact .inr (.inl ⟨by omega, h2, h⟩)
    · exact .inr (.inr (by omega))
theorem Ac.append {e : TypeId} {ed : TypeDesc} {ez eb : Nat} {er : Option Value} {id n nn : Nat} {z : Value} {blk blk' : Blk} {bc l : List V} (ho : o.op = .call { callee := .builtin .append, args := #[x, y], argTypes := #[t, t] }) (hd : o.dst = some d) (hk : Nat.blt d k = true) (ht : lk E.tab t = some ⟨td, tz, tb, tr⟩) (hty : td = .slice e) (hte : lk E.tab e = some ⟨ed, ez, eb, er⟩)
    (hz : er = some z) (hzs : z.cells.size = ez) (hx : evO s x = some (.sl ez id 0 n)) (hb : lk h.b id = some (some blk)) (hB : B ≤ id) (hbl : BlkIs blk bc) (hlen : bc.length = n * ez) (hsrc : Src s h y ez nn l) (hid : hasL id l = false) (hid2 : hasL id bc = false)
    (hbl' : BlkIs blk' (bc ++ l)) (hby : (n + nn) * eb ≤ 140737488355328) (hby0 : 0 < eb) :
    Ac E k B false s h o ((d, .sl ez id 0 (n + nn)) :: dropS id s) ⟨h.n, (id, some blk') :: dropH id h.b⟩ := fun U m a w r => by
  obtain ⟨A, c, news, hy, hn1, hn2, hA, hnews, hone, hrel⟩ := hsrc k B U m a w r
  have hxv := r.opnd hx
  generalize hxe : a.eval x = xv at hxv
  obtain ⟨hidn, hbr⟩ := r.heap.live id blk hb
  obtain ⟨_, i, hi, hsz, hbyt, hzer⟩ := E.ok e _ hte
  dsimp only at hsz hbyt hzer
  have hu := (E.ok t _ ht).1
  dsimp only at hu
  rw [hty] at hu
  rw [hz] at hzer
  have hsmall : n + nn ≤ 140737488355328 := Nat.le_trans (Nat.le_mul_of_pos_right _ hby0) hby
  -- what is forgotten first
  obtain ⟨r1, st1⟩ := r.drop id
  have hbd : ∃ bd, lk (dropH id h.b) id = some (some bd) ∧ BlkIs bd bc := by
    unfold dropH
    rw [lk_map, hb]
    rcases hbl.lt hid2 with h1 | ⟨l', h1, rfl⟩
    · exact ⟨blk, congrArg some h1, hbl⟩
    · exact ⟨_, congrArg some h1, .cells _⟩
  obtain ⟨bd, hbd1, hbd2⟩ := hbd
  have run : ∀ {v' : Value} {w1 : World}, (Builtin.append_ #[t, t] o.type #[xv, .slice A nn c]).run E.P w = .ok v' w1 → (execOp a.eval o).run E.P w = .ok (.value v') w1 := fun {v' w1} h1 => by
    simp only [execOp, ho, resolve, invoke, builtin, Sem.run_bind, Sem.run_pure, Result.andThen_ok, List.map_toArray, List.map_cons, List.map_nil, hxe, hy, h1]
  -- the world stays
  have stay : ∀ {v' : Value}, (Builtin.append_ #[t, t] o.type #[xv, .slice A nn c]).run E.P w = .ok v' w → VR U m h.n w (.sl ez id 0 (n + nn)) v' → BR U m h.n w (m id) blk' →
      ∃ nx a' w' U' m', (execOp a.eval o).run E.P w = .ok nx w' ∧ Nxt o a nx a' ∧ SR k B U' m' ((d, .sl ez id 0 (n + nn)) :: dropS id s) ⟨h.n, (id, some blk') :: dropH id h.b⟩ a' w' ∧ Stp B U m h.n h.b w U' m' h.n ((id, some blk') :: dropH id h.b) w' ∧ (false = true → Same0 w w') := fun {v'} h1 h2 h3 => by
    obtain ⟨r2, st2⟩ := r1.reblk (blk' := blk') hbd1 h3
    refine ⟨_, _, w, U, m, run h1, .inl ⟨_, rfl, rfl⟩, ?_, st1.trans st2, fun h => by cases h⟩
    rw [hd]; exact r2.put hk h2
  -- a new block
  have made : ∀ (olds : List Value) (cap : Nat), olds.length = n * ez → (∀ (j : Nat) (c : V) (u : Value), bc[j]? = some c → olds[j]? = some u → VR U m h.n w c u) →
      (Builtin.append_ #[t, t] o.type #[xv, .slice A nn c]).run E.P w = .ok (.slice (some ⟨w.heap.size, 0, none⟩) (n + nn) cap) (w.drew.alloc (.cells (olds.toArray ++ news.toArray ++ Builtin.zeroCells z.cells (cap - (n + nn))) e)) → n + nn ≤ cap → cap ≤ maxLen →
      ∃ nx a' w' U' m', (execOp a.eval o).run E.P w = .ok nx w' ∧ Nxt o a nx a' ∧ SR k B U' m' ((d, .sl ez id 0 (n + nn)) :: dropS id s) ⟨h.n, (id, some blk') :: dropH id h.b⟩ a' w' ∧ Stp B U m h.n h.b w U' m' h.n ((id, some blk') :: dropH id h.b) w' ∧ (false = true → Same0 w w') := fun olds cap ho1 ho2 h1 h2 h3 => by
    have hpush : (w.drew.alloc (.cells (olds.toArray ++ news.toArray ++ Builtin.zeroCells z.cells (cap - (n + nn))) e)).heap = w.heap.push (.cells (olds.toArray ++ news.toArray ++ Builtin.zeroCells z.cells (cap - (n + nn))) e) := rfl
    have hsize : (olds.toArray ++ news.toArray ++ Builtin.zeroCells z.cells (cap - (n + nn))).size = cap * ez := by
      simp only [Array.size_append, List.size_toArray, size_zeroCells, hzs, ho1, hn1, ← Nat.add_mul]
      congr 1; omega
    have hmv : ∀ (c : V) (u : Value), c.has id = false → VR U m h.n w c u → VR U (ext m id (some w.heap.size)) h.n (w.drew.alloc (.cells (olds.toArray ++ news.toArray ++ Builtin.zeroCells z.cells (cap - (n + nn))) e)) c u := fun c u h4 h5 =>
      (h5.remap (fun j hj => ext_ne hj) h4).mono (fun _ h => h) (fun x hx => push_old hpush (r.heap.ulow x hx)) (fun x z hz => bsize_push hpush hz) (Nat.le_refl _) (fun _ _ => rfl)
    obtain ⟨r2, st2⟩ := r1.move (w' := w.drew.alloc (.cells (olds.toArray ++ news.toArray ++ Builtin.zeroCells z.cells (cap - (n + nn))) e)) (blk' := blk') hB hbd1
      (fun t v hv => by
        unfold dropS at hv
        rw [lk_map] at hv
        obtain ⟨v0, _, rfl⟩ := Option.map_eq_some_iff.1 hv
        exact dropV_has id v0)
      (fun i bk hbk _ => by
        obtain ⟨b0, _, h5⟩ := lk_dropH hbk
        exact dropB_has id h5)
      hpush rfl rfl rfl
      (hbl'.br ⟨_, e, push_new hpush, by rw [hsize, List.length_append, hlen, hn2, ← Nat.add_mul]; exact Nat.mul_le_mul_right _ h2, fun j c u hc hu => by
        have hu' : (olds ++ news ++ (Builtin.zeroCells z.cells (cap - (n + nn))).toList)[j]? = some u := by
          rw [← Array.getElem?_toList] at hu; simpa only [Array.toList_append] using hu
        by_cases hj : j < bc.length
        · rw [List.getElem?_append_left hj] at hc
          rcases get_append3 hu' with ⟨_, g⟩ | ⟨g, _⟩ | g
          · exact hmv c u (hasL_get hid2 hc) (ho2 j c u hc g)
          · omega
          · omega
        · rw [List.getElem?_append_right (by omega)] at hc
          have hjl := (List.getElem?_eq_some_iff.1 hc).1
          rcases get_append3 hu' with ⟨g, _⟩ | ⟨g, _, g2⟩ | g
          · omega
          · rw [ho1, ← hlen] at g2; exact hmv c u (hasL_get hid hc) (hrel _ c u hc g2)
          · omega⟩)
    refine ⟨_, _, _, U, _, run h1, .inl ⟨_, rfl, rfl⟩, ?_, st1.trans st2, fun h => by cases h⟩
    rw [hd]
    exact r2.put hk (.sl (x := w.heap.size) (z := cap * ez) hidn (ext_here _ _ _) h2 h3 ⟨_, e, _, push_new hpush, hsize⟩ (by omega))
  cases hxv with
  | sl0 _ hm =>
    rw [hm] at hbr
    have hbc := hbl.nil hbr
    subst hbc
    cases A with
    | none =>
      have hn0 := hA rfl; subst hn0
      have : l = [] := List.eq_nil_of_length_eq_zero (by omega)
      subst this
      exact stay (run_none w t o.type e i hu hi none 0 0 c (Nat.le_refl _)) (.sl0 hidn hm) (by rw [hm]; exact hbl'.br0)
    | some ad =>
      by_cases hn0 : nn = 0
      · subst hn0
        have : l = [] := List.eq_nil_of_length_eq_zero (by omega)
        subst this
        exact stay (run_zero w t o.type e i hu hi ad c) (.sl0 hidn hm) (by rw [hm]; exact hbl'.br0)
      · have hr := run_append_nil (P := E.P) w t o.type e i z hu hi hzer ad nn c news (by rw [hsz]; exact hn1) (hnews ad rfl) (by omega) (by omega) (by rw [hbyt]; simp only [Nat.zero_add] at hby; omega)
        have := made [] (grownCap w nn 0 e) (by simp) (fun j c u hc => by simp at hc)
        simp only [Nat.zero_add] at this
        simp only [Nat.zero_add]
        refine this (by simpa using hr) (grownCap_ge w nn 0 e) (grownCap_le_maxLen w nn 0 e (by simp only [maxLen]; omega))
  | @sl _ _ _ _ xx cap zz _ hm hk1 hc1 hz1 hs1 =>
    rw [hm] at hbr
    obtain ⟨arr, et, g1, g2, g3⟩ := hbl.cr hbr
    cases A with
    | none =>
      have hn0 := hA rfl; subst hn0
      have : l = [] := List.eq_nil_of_length_eq_zero (by omega)
      subst this
      refine stay (run_none w t o.type e i hu hi _ n cap c hk1) (.sl hidn hm hk1 hc1 hz1 hs1) ?_
      rw [hm]
      exact hbl'.br ⟨arr, et, g1, by simpa using g2, fun j c v hc hv => g3 j c v (by simpa using hc) hv⟩
    | some ad =>
      have holen : bc.length ≤ arr.size := g2
      by_cases hroom : n + nn ≤ cap
      · have hzz : arr.size = zz := by
          obtain ⟨a1, t1, f1, q1, q2⟩ := hz1
          rw [g1] at q1; injection q1 with q1; injection q1 with q1; subst q1; exact q2
        have hfit : n * ez + news.length ≤ arr.size := by
          rw [hn1, ← Nat.add_mul, hzz]
          exact Nat.le_trans (Nat.mul_le_mul_right _ hroom) (by omega)
        have hr := run_room (P := E.P) w t o.type e et i hu hi xx n cap arr g1 ad nn c news (by rw [hsz]; exact hn1) (hnews ad rfl) hone hroom (by rw [hsz]; exact hfit)
        rw [hsz] at hr
        have hasz : (arr.toList.take (n * ez) ++ news ++ arr.toList.drop (n * ez + news.length)).toArray.size = arr.size := by
          simp only [List.size_toArray, List.length_append, List.length_take, List.length_drop, Array.length_toList]; omega
        have hU : ∀ y, U y → (w.setRow xx (arr.toList.take (n * ez) ++ news ++ arr.toList.drop (n * ez + news.length)).toArray).heap[y]? = w.heap[y]? := fun y hy => setRow_other w xx y _ (by rintro rfl; exact (r.heap.ok id blk y hb hm).1 hy)
        obtain ⟨r2, st2⟩ := r1.write (blk' := blk') hbd1 hm g1 hasz
          (hbl'.br ⟨_, et, setRow_same g1, by rw [hasz, List.length_append, hlen, hn2]; omega, fun j c u hc hu => by
            have hu' : (arr.toList.take (n * ez) ++ news ++ arr.toList.drop (n * ez + news.length))[j]? = some u := by simpa using hu
            have htl : (arr.toList.take (n * ez)).length = n * ez := by rw [List.length_take, Array.length_toList]; omega
            have hmo : ∀ c u, VR U m h.n w c u → VR U m h.n (w.setRow xx (arr.toList.take (n * ez) ++ news ++ arr.toList.drop (n * ez + news.length)).toArray) c u := fun c u h5 => h5.mono (fun _ h => h) hU (fun x z hz => bsize_set g1 hasz hz) (Nat.le_refl _) (fun _ _ => rfl)
            by_cases hj : j < bc.length
            · rw [List.getElem?_append_left hj] at hc
              rcases get_append3 hu' with ⟨_, g⟩ | ⟨g, _⟩ | g
              · rw [List.getElem?_take, if_pos (by omega)] at g
                exact hmo c u (g3 j c u hc (by simpa using g))
              · omega
              · omega
            · rw [List.getElem?_append_right (by omega)] at hc
              have hjl := (List.getElem?_eq_some_iff.1 hc).1
              rcases get_append3 hu' with ⟨g, _⟩ | ⟨g, _, gg⟩ | g
              · omega
              · rw [htl, ← hlen] at gg; exact hmo c u (hrel _ c u hc gg)
              · omega⟩)
        refine ⟨_, _, _, U, m, run hr, .inl ⟨_, rfl, rfl⟩, ?_, st1.trans (st2.low r1.base), fun h => by cases h⟩
        rw [hd]
        exact r2.put hk (.sl hidn hm hroom hc1 (bsize_set g1 hasz hz1) hs1)
      · have hlo : ((arr.toList).take (n * ez)).length = n * ez := by rw [List.length_take, Array.length_toList]; omega
        have hr := run_append_grow (P := E.P) w t o.type e i z hu hi hzer ⟨xx, 0, none⟩ n cap (arr.toList.take (n * ez)) (by rw [hsz]; exact hlo)
          (fun j v hv => by
            rw [Addr.add_lit, Nat.zero_add, cell_of_arr g1]
            rw [List.getElem?_take] at hv
            split at hv
            · simpa using hv
            · cases hv)
          ad nn c news (by rw [hsz]; exact hn1) (hnews ad rfl) (by omega) (by omega) (growslice_fits (by omega) (by rw [hbyt]; exact hby))
        refine made (arr.toList.take (n * ez)) (grownCap w (n + nn) cap e) hlo (fun j c u hc hu => ?_) hr (grownCap_ge w _ _ e) (grownCap_le_maxLen w _ _ e (by simp only [maxLen]; omega))
        rw [List.getElem?_take] at hu
        split at hu
        · exact g3 j c u hc (by simpa using hu)
        · cases hu
end
end Go.Proofs.Ytmgckodihnmjoaa
