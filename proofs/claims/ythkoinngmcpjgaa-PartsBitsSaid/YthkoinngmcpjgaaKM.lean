/-
  The logic's rules for maps: which keys are there, and what they have; no order is told. Conditions: none.
-/
import Derived.Test.YthkoinngmcpjgaaKB
import Derived.MapKept
set_option linter.unusedVariables false
set_option linter.unusedSimpArgs false
set_option maxRecDepth 20000
namespace Go.Proofs.Ythkoinngmcpjgaa
open Go.RowKit

section
variable {E : Env} {k B : Nat} {s s' : Slots} {h h' : Hp} {Q Q' : Post} {U : Nat → Prop} {m : Nat → Option Nat} {a : Act} {w w' : World} {o : Oper} {v : V} {d n : Nat} {t u e : TypeId} {td ed : TypeDesc} {tz tb ez eb : Nat} {tr er : Option Value} {x y z : Operand} {ρ g : Bool} {q : IntKind} {c : Nat} {has : Int → Bool} {val : Int → List D} {ents : Array MapEntry} {clock : Nat} {i : Int}

theorem MapR.find (hM : MapR U w q g c has val ents clock) (i : Int) : (has i = false ∧ Instr.findNow (.int q) (.int q i) ents.toList 0 = some none ∧ ∀ r ∈ ents.toList, r.key ≠ .int q i) ∨ (has i = true ∧ ∃ j e, Instr.findNow (.int q) (.int q i) ents.toList 0 = some (some (j, e.val)) ∧ ents[j]? = some e ∧ e.key = .int q i ∧ VR U (fun _ => none) 0 w (mkD g (val i)) e.val) := by
  have hks : ∀ r ∈ ents.toList, MapKept.IsKey (.int q) r.key := fun r hr => by
    obtain ⟨j, hj⟩ := List.getElem?_of_mem hr
    obtain ⟨i', h1, _⟩ := hM.key j r (by simpa using hj)
    rw [h1]; exact (rfl : q = q)
  rcases MapKept.findNow_spec (d := .int q) (k := .int q i) (rfl : q = q) ents.toList 0 hks with ⟨h1, h2⟩ | ⟨j, r, h1, h2, h3⟩
  · refine .inl ⟨?_, h1, h2⟩
    cases hb : has i
    · rfl
    · obtain ⟨j, r, g1, g2⟩ := hM.all i hb
      exact absurd g2 (h2 r (by
        have := List.mem_of_getElem? (l := ents.toList) (i := j) (by simpa using g1)
        exact this))
  · have hj : ents[j]? = some r := by simpa using h2
    obtain ⟨i', g1, g2, g3, g4⟩ := hM.key j r hj
    rw [h3] at g1; injection g1 with _ g1; subst g1
    exact .inr ⟨g3, j, r, by rw [h1, Nat.zero_add], hj, h3, g4⟩
/-- Which map a value is. -/
theorem SR.evMap (r : SR k B U m s h a w) {x : Operand} {id : Nat} (hv : evO s x = some (.map id)) : ∃ b, m id = some b ∧ a.eval x = .map (some b) := by
  have h1 := r.opnd hv
  generalize a.eval x = y at h1
  cases h1 with | map h2 h3 => exact ⟨_, h3, rfl⟩
theorem SR.evFm (r : SR k B U m s h a w) {x : Operand} {id : Nat} (hv : evO s x = some (.map id)) (hb : lk h.b id = some (some (.fm q g c has val))) : ∃ b ents clock, m id = some b ∧ a.eval x = .map (some b) ∧ w.heap[b]? = some (.map ents clock) ∧ MapR U w q g c has val ents clock := by
  obtain ⟨b, h1, h2⟩ := r.evMap hv
  obtain ⟨_, hbr⟩ := r.heap.live id _ hb
  rw [h1] at hbr
  cases hbr with | fm ents clock g1 g2 => exact ⟨b, ents, clock, h1, h2, g1, g2⟩
theorem run_ck {kt kz kb : Nat} {kr : Option Value} (hkt : lk E.tab kt = some ⟨.int q, kz, kb, kr⟩) (e : Bool) (w : World) : (Instr.checkKey e 10000 kt (.int q i)).run E.P w = .ok () w := MapKept.run_checkKey (d := .int q) (k := .int q i) (E.ok kt _ hkt).1 (rfl : q = q) e 9999
theorem Yl.lookup {id : Nat} {kt et : TypeId} {ok : Bool} {kz kb : Nat} {kr : Option Value} {z0 : Value} {v0 : V} (ho : o.op = .lookup t x y ok) (ht : lk E.tab t = some ⟨td, tz, tb, tr⟩) (hd : td = .map kt et) (hkt : lk E.tab kt = some ⟨.int q, kz, kb, kr⟩) (hte : lk E.tab et = some ⟨ed, ez, eb, er⟩) (hz : er = some z0) (hv0 : absV z0 = some v0)
    (hx : evO s x = some (.map id)) (hb : lk h.b id = some (some (.fm q g c has val))) (hy : evO s y = some (.d (.int q i))) : Yl true E k B s h o (cond ok (.tup [selV (has i) (mkD g (val i)) v0, vb (has i)]) (selV (has i) (mkD g (val i)) v0)) := fun U m a w r => by
  obtain ⟨b, ents, clock, h1, h2, h3, hM⟩ := r.evFm hx hb
  have hyv := r.evInt hy
  have hblt : b < w.heap.size := (Array.getElem?_eq_some_iff.1 h3).1
  have key : ∃ rv : Value, VR U m h.n w (selV (has i) (mkD g (val i)) v0) rv ∧ ∀ w', Same0 w w' → (Instr.lookup t (.map (some b)) (.int q i) ok).run E.P w' = .ok (if ok then .tuple #[rv, .bool (has i)] else rv) w' := by
    rcases hM.find i with ⟨hf, g1, _⟩ | ⟨hf, j, ent, g1, g2, g3, g4⟩
    · refine ⟨z0, (absV_ok hv0).le (selV_f hf), fun w' hw => ?_⟩
      have hb' : w'.heap[b]? = some (.map ents clock) := by rw [hw b hblt]; exact h3
      have hu := und ht w'; rw [hd] at hu
      rw [hf]
      simp [Instr.lookup, hu, MapKept.run_getObj_map hb', run_ck hkt, MapKept.run_findKey (E.ok kt _ hkt).1 g1, Result.andThen, zer hte hz]
    · refine ⟨ent.val, (g4.elsewhere (by cases g <;> simp only [mkD] <;> first | exact pureL_map _ | (split <;> rfl))).le (selV_t hf), fun w' hw => ?_⟩
      have hb' : w'.heap[b]? = some (.map ents clock) := by rw [hw b hblt]; exact h3
      have hu := und ht w'; rw [hd] at hu
      rw [hf]
      simp [Instr.lookup, hu, MapKept.run_getObj_map hb', run_ck hkt, MapKept.run_findKey (E.ok kt _ hkt).1 g1, Result.andThen]
  obtain ⟨rv, g1, g2⟩ := key
  cases ok
  · exact ⟨rv, g1, fun w' hw => by simp [execOp, ho, h2, hyv, g2 w' (hw rfl)]⟩
  · refine ⟨.tuple #[rv, .bool (has i)], .tup rfl (fun j c u hc hu => ?_), fun w' hw => by simp [execOp, ho, h2, hyv, g2 w' (hw rfl)]⟩
    match j with
    | 0 => simp at hc hu; subst hc; subst hu; exact g1
    | 1 => simp at hc hu; subst hc; subst hu; exact .d (.bool _)
    | j + 2 => simp at hc
theorem Yl.lookupN {kt et : TypeId} {ok : Bool} {kz kb : Nat} {kr : Option Value} {z0 : Value} {v0 : V} (ho : o.op = .lookup t x y ok) (ht : lk E.tab t = some ⟨td, tz, tb, tr⟩) (hd : td = .map kt et) (hkt : lk E.tab kt = some ⟨.int q, kz, kb, kr⟩) (hte : lk E.tab et = some ⟨ed, ez, eb, er⟩) (hz : er = some z0) (hv0 : absV z0 = some v0)
    (hx : evO s x = some (.d .nmap)) (hy : evO s y = some (.d (.int q i))) : Yl true E k B s h o (cond ok (.tup [v0, vb false]) v0) := fun U m a w r => by
  have h1 := r.evD hx
  have hyv := r.evInt hy
  generalize hxe : a.eval x = xv at h1
  cases h1
  have run : ∀ w', (Instr.lookup t (.map none) (.int q i) ok).run E.P w' = .ok (if ok then .tuple #[z0, .bool false] else z0) w' := fun w' => by
    have hu := und ht w'; rw [hd] at hu
    have hf : (Instr.findKey kt (.int q i) []).run E.P w' = .ok none w' := MapKept.run_findKey (E.ok kt _ hkt).1 rfl
    simp [Instr.lookup, hu, run_ck hkt, hf, Result.andThen, zer hte hz]
  cases ok
  · exact ⟨z0, absV_ok hv0, fun w' _ => by simp [execOp, ho, hxe, hyv, run w']⟩
  · refine ⟨.tuple #[z0, .bool false], .tup rfl (fun j c u hc hu => ?_), fun w' _ => by simp [execOp, ho, hxe, hyv, run w']⟩
    match j with
    | 0 => simp at hc hu; subst hc; subst hu; exact absV_ok hv0
    | 1 => simp at hc hu; subst hc; subst hu; exact .d (.bool _)
    | j + 2 => simp at hc
/-- A map's block is written. -/
theorem SR.writeM (r : SR k B U m s h a w) {id x : Nat} {blk blk' : Blk} {ents ents' : Array MapEntry} {clock clock' : Nat} (hb : lk h.b id = some (some blk)) (hx : m id = some x) (hg : w.heap[x]? = some (.map ents clock))
    (hbr : BR U m h.n { w with heap := w.heap.setIfInBounds x (.map ents' clock') } (some x) blk') :
    SR k B U m s ⟨h.n, (id, some blk') :: h.b⟩ a { w with heap := w.heap.setIfInBounds x (.map ents' clock') } ∧ Stp h.n U m h.n h.b w U m h.n ((id, some blk') :: h.b) { w with heap := w.heap.setIfInBounds x (.map ents' clock') } := by
  have hxl : x < w.heap.size := (Array.getElem?_eq_some_iff.1 hg).1
  have other : ∀ y, y ≠ x → ({ w with heap := w.heap.setIfInBounds x (.map ents' clock') } : World).heap[y]? = w.heap[y]? := fun y hy => by simp [Ne.symm hy]
  have bs : ∀ y z, BSize w y z → BSize { w with heap := w.heap.setIfInBounds x (.map ents' clock') } y z := fun y z ⟨arr, t, f, h1, h2⟩ => by
    by_cases e : y = x
    · subst e; rw [hg] at h1; cases h1
    · exact ⟨arr, t, f, by rw [other y e]; exact h1, h2⟩
  have hU : ∀ y, U y → ({ w with heap := w.heap.setIfInBounds x (.map ents' clock') } : World).heap[y]? = w.heap[y]? := fun y hy => other y (by rintro rfl; exact (r.heap.ok id blk y hb hx).1 hy)
  have st : Stp h.n U m h.n h.b w U m h.n ((id, some blk') :: h.b) { w with heap := w.heap.setIfInBounds x (.map ents' clock') } :=
    { hn := Nat.le_refl _, hm := fun _ _ => rfl, hU := fun _ h => h, size := by simp, os := rfl, tape := rfl, output := rfl
      keep := fun y hy hn => other y (by rintro rfl; exact hn ⟨id, blk, hb, hx⟩)
      own := fun y hy ⟨i, bk, h1, h2⟩ => by
        rw [lk_cons] at h1
        split at h1
        · rename_i e; subst e; exact ⟨_, blk, hb, h2⟩
        · exact ⟨i, bk, h1, h2⟩
      lim := fun x _ hx => .inl hx, hz := bs }
  refine ⟨r.stp st ⟨fun i bk h1 => ?_, fun i bk y h1 h2 => ?_, fun i i' bk bk' y h1 h2 h3 h4 => ?_, fun y hy => Nat.lt_of_lt_of_le (r.heap.ulow y hy) st.size⟩, st⟩
  · rw [lk_cons] at h1
    split at h1
    · rename_i e; subst e; injection h1 with h1; injection h1 with h1; subst h1
      exact ⟨(r.heap.live _ _ hb).1, by rw [hx]; exact hbr⟩
    · rename_i hne
      obtain ⟨g1, g2⟩ := r.heap.live i bk h1
      exact ⟨g1, g2.mono (fun _ h => h) hU bs (Nat.le_refl _) (fun _ _ => rfl) (fun y hy => other y (by rintro rfl; exact hne (r.heap.inj _ _ _ _ _ hb h1 hx hy)))⟩
  · rw [lk_cons] at h1
    split at h1
    · rename_i e; subst e
      obtain ⟨g1, g2⟩ := r.heap.ok _ blk y hb h2
      exact ⟨g1, Nat.lt_of_lt_of_le g2 st.size⟩
    · obtain ⟨g1, g2⟩ := r.heap.ok i bk y h1 h2
      exact ⟨g1, Nat.lt_of_lt_of_le g2 st.size⟩
  · rw [lk_cons] at h1 h2
    split at h1
    · rename_i e; subst e
      split at h2
      · rename_i e; exact e
      · exact r.heap.inj _ _ blk bk' y hb h2 h3 h4
    · split at h2
      · rename_i e; subst e; exact r.heap.inj _ _ bk blk y h1 hb h3 h4
      · exact r.heap.inj _ _ bk bk' y h1 h2 h3 h4
theorem VR.mkD_any {m' : Nat → Option Nat} {n n' : Nat} {ds : List D} {r : Value} (h : VR U m n w (mkD g ds) r) : VR U m' n' w (mkD g ds) r := h.elsewhere (by cases g <;> simp only [mkD] <;> first | exact pureL_map _ | (split <;> rfl))
/-- An entry more, or another value of one that is there. -/
theorem MapR.put (hM : MapR U w q g c has val ents clock) {ds : List D} {rv : Value} (hi : inR q i) (hv : VR U m n w (mkD g ds) rv) {has' : Int → Bool} {val' : Int → List D} (h1 : ∀ j, has' j = (decide (j = i) || has j)) (h2 : ∀ j, val' j = if j = i then ds else val j) :
    (has i = false → MapR U w q g (c + 1) has' val' (ents.push { key := .int q i, val := rv, born := clock }) (clock + 1)) ∧
    (∀ j e, ents[j]? = some e → e.key = .int q i → MapR U w q g c has' val' (ents.modify j fun e => { e with key := .int q i, val := rv }) clock) := by
  refine ⟨fun hf => ?_, fun j e hj he => ?_⟩
  · have hno : ∀ r ∈ ents.toList, r.key ≠ .int q i := fun r hr hk => by
      obtain ⟨j, hj⟩ := List.getElem?_of_mem hr
      obtain ⟨i', g1, _, g3, _⟩ := hM.key j r (by simpa using hj)
      rw [hk] at g1; injection g1 with _ g1; subst g1
      rw [hf] at g3; cases g3
    refine ⟨by simp [hM.size], MapKept.stamped_push hM.st hno, fun j r hj => ?_, fun i' hi' => ?_⟩
    · rw [Array.getElem?_push] at hj
      split at hj
      · injection hj with hj; subst hj
        exact ⟨i, rfl, hi, by rw [h1]; simp, by rw [h2, if_pos rfl]; exact hv.mkD_any⟩
      · obtain ⟨i', g1, g2, g3, g4⟩ := hM.key j r hj
        have hne : i' ≠ i := fun e => by subst e; rw [hf] at g3; cases g3
        exact ⟨i', g1, g2, by rw [h1, g3]; simp, by rw [h2, if_neg hne]; exact g4⟩
    · rw [h1] at hi'
      by_cases e : i' = i
      · subst e; exact ⟨ents.size, { key := .int q i', val := rv, born := clock }, by simp, rfl⟩
      · simp [e] at hi'
        obtain ⟨j, r, g1, g2⟩ := hM.all i' hi'
        have := (Array.getElem?_eq_some_iff.1 g1).1
        exact ⟨j, r, by rw [Array.getElem?_push, if_neg (by omega)]; exact g1, g2⟩
  · have hin : has i = true := by
      obtain ⟨i', g1, _, g3, _⟩ := hM.key j e hj
      rw [he] at g1; injection g1 with _ g1; subst g1; exact g3
    have hkey : ∀ e', ents[j]? = some e' → ({ e' with key := .int q i, val := rv } : MapEntry).key = e'.key := fun e' he' => by rw [hj] at he'; cases he'; exact he.symm
    refine ⟨by simp [hM.size], MapKept.stamped_modify hM.st j _ (fun _ _ => rfl) (fun e' _ he' => hkey e' he'), fun p r hp => ?_, fun i' hi' => ?_⟩
    · rw [Array.getElem?_modify] at hp
      split at hp
      · rename_i ejp; subst ejp
        rw [hj] at hp; simp at hp; subst hp
        exact ⟨i, rfl, hi, by rw [h1]; simp, by rw [h2, if_pos rfl]; exact hv.mkD_any⟩
      · rename_i ejp
        obtain ⟨i', g1, g2, g3, g4⟩ := hM.key p r hp
        have hne : i' ≠ i := fun e0 => by
          subst e0
          have hnd := hM.st.2.2
          have l1 : ents.toList[j]? = some e := by simpa using hj
          have l2 : ents.toList[p]? = some r := by simpa using hp
          have q1 := List.getElem?_eq_some_iff.1 l1
          have q2 := List.getElem?_eq_some_iff.1 l2
          have m1 : (ents.toList.map (·.key))[j]'(by simpa using q1.1) = (ents.toList.map (·.key))[p]'(by simpa using q2.1) := by
            rw [List.getElem_map, List.getElem_map, q1.2, q2.2, he, g1]
          exact ejp ((List.getElem_inj hnd).1 m1)
        exact ⟨i', g1, g2, by rw [h1, g3]; simp, by rw [h2, if_neg hne]; exact g4⟩
    · rw [h1] at hi'
      by_cases e0 : i' = i
      · subst e0; exact ⟨j, { e with key := .int q i', val := rv }, by rw [Array.getElem?_modify, if_pos rfl, hj]; rfl, rfl⟩
      · simp [e0] at hi'
        obtain ⟨p, r, g1, g2⟩ := hM.all i' hi'
        have hpj : j ≠ p := fun e1 => by subst e1; rw [hj] at g1; injection g1 with g1; subst g1; rw [he] at g2; injection g2 with _ g2; exact e0 g2.symm
        exact ⟨p, r, by rw [Array.getElem?_modify, if_neg hpj]; exact g1, g2⟩
theorem inR_ev (r : SR k B U m s h a w) {y : Operand} (hy : evO s y = some (.d (.int q i))) : inR q i := r.evIntR hy
/-- A map is written. -/
theorem Ac.mapPut {id : Nat} {kt et kz kb : Nat} {kr : Option Value} {ds : List D} {z : Operand} {has' : Int → Bool} {val' : Int → List D} {c' : Nat} (ho : o.op = .mapUpdate t x y z ∨ o.op = .insert t x y z) (hdst : o.dst = none) (ht : lk E.tab t = some ⟨td, tz, tb, tr⟩) (hd : td = .map kt et) (hkt : lk E.tab kt = some ⟨.int q, kz, kb, kr⟩)
    (hx : evO s x = some (.map id)) (hb : lk h.b id = some (some (.fm q g c has val))) (hy : evO s y = some (.d (.int q i))) (hz : evO s z = some (mkD g ds)) (h1 : ∀ j, has' j = (decide (j = i) || has j)) (h2 : ∀ j, val' j = if j = i then ds else val j) (h3 : c' = if has i then c else c + 1) :
    Ac E k B false s h o s ⟨h.n, (id, some (.fm q g c' has' val')) :: h.b⟩ := fun U m a w r => by
  obtain ⟨b, ents, clock, e1, e2, e3, hM⟩ := r.evFm hx hb
  have hyv := r.evInt hy
  have hzv := r.opnd hz
  have hi := inR_ev r hy
  have hu := und ht w; rw [hd] at hu
  have hblt : b < w.heap.size := (Array.getElem?_eq_some_iff.1 e3).1
  have hexec : execOp a.eval o = (do Instr.mapUpdate t (.map (some b)) (.int q i) (a.eval z); pure .skip) := by
    rcases ho with ho | ho <;> simp only [execOp, ho, e2, hyv]
  have fin : ∀ ents' clock', MapR U w q g c' has' val' ents' clock' → (Instr.mapUpdate t (.map (some b)) (.int q i) (a.eval z)).run E.P w = .ok () { w with heap := w.heap.setIfInBounds b (.map ents' clock') } →
      ∃ nx a' w' U' m', (execOp a.eval o).run E.P w = .ok nx w' ∧ Nxt o a nx a' ∧ SR k B U' m' s ⟨h.n, (id, some (.fm q g c' has' val')) :: h.b⟩ a' w' ∧ Stp B U m h.n h.b w U' m' h.n ((id, some (.fm q g c' has' val')) :: h.b) w' ∧ (false = true → Same0 w w') := fun ents' clock' hM' hrun => by
    have hU : ∀ y, U y → ({ w with heap := w.heap.setIfInBounds b (.map ents' clock') } : World).heap[y]? = w.heap[y]? := fun y hy => by
      have : b ≠ y := by rintro rfl; exact (r.heap.ok id _ b hb e1).1 hy
      simp [this]
    have bs : ∀ y z, BSize w y z → BSize { w with heap := w.heap.setIfInBounds b (.map ents' clock') } y z := fun y z ⟨arr, t, f, q1, q2⟩ => by
      by_cases e : y = b
      · subst e; rw [e3] at q1; cases q1
      · exact ⟨arr, t, f, by simp [Ne.symm e]; simpa using q1, q2⟩
    obtain ⟨r1, st⟩ := r.writeM hb e1 e3 (ents' := ents') (clock' := clock') (blk' := .fm q g c' has' val') (.fm ents' clock' (by simp [hblt]) (hM'.mono (fun _ h => h) hU bs))
    refine ⟨.skip, a, _, U, m, ?_, .inr ⟨rfl, by rw [hdst]; rfl⟩, r1, st.low r.base, fun h => by cases h⟩
    rw [hexec]; simp [hrun]
  rcases hM.find i with ⟨hf, g1, _⟩ | ⟨hf, j, e, g1, g2, g3, _⟩
  · have hM' := (hM.put (m := m) (n := h.n) hi hzv h1 h2).1 hf
    rw [hf] at h3; simp at h3; subst h3
    refine fin _ _ hM' ?_
    simp [Instr.mapUpdate, hu, MapKept.run_getObj_map e3, run_ck hkt, MapKept.run_findKey (E.ok kt _ hkt).1 g1, MapKept.run_setObj_map _ e3, Result.andThen]
  · have hM' := (hM.put (m := m) (n := h.n) hi hzv h1 h2).2 j e g2 g3
    rw [hf] at h3; simp at h3; subst h3
    refine fin _ _ hM' ?_
    simp [Instr.mapUpdate, hu, MapKept.run_getObj_map e3, run_ck hkt, MapKept.run_findKey (E.ok kt _ hkt).1 g1, MapKept.run_setObj_map _ e3, Result.andThen, g2, g3, MapKept.run_keyThatStays (d := .int q) (k := .int q i) (rfl : q = q)]
/-- A map is made. -/
theorem Ac.makeMap {cc : Nat} (ho : o.op = .makeMap t none) (hd : o.dst = some d) (hk : Nat.blt d k = true) (hn : h.n = cc) (q : IntKind) (g : Bool) (val : Int → List D) : Ac E k B true s h o ((d, .map cc) :: s) ⟨cc + 1, (cc, some (.fm q g 0 (fun _ => false) val)) :: h.b⟩ := fun U m a w r => by
  subst hn
  let w2 : World := { w with heap := w.heap.push (.map #[] 0) }
  have hh : w2.heap = w.heap.push (.map #[] 0) := rfl
  obtain ⟨r1, st⟩ := r.grow (w' := w2) hh rfl rfl rfl (blk := .fm q g 0 (fun _ => false) val) (.fm #[] 0 (push_new hh) ⟨rfl, MapKept.stamped_empty 0, fun j r hj => by simp at hj, fun i hi => by cases hi⟩)
  refine ⟨.value (.map (some w.heap.size)), a.put (some d) (.map (some w.heap.size)), w2, U, _, ?_, .inl ⟨_, rfl, by rw [hd]⟩, r1.put hk (.map (Nat.lt_succ_self _) (ext_here _ _ _)), st.low r.base, fun _ x hx => push_old hh hx⟩
  simp only [execOp, ho, Option.map_none, Instr.makeMap, newObj, Sem.run_bind, Sem.run_pure, Result.andThen_ok, Sem.run]
  rfl
theorem Yl.lenM {id : Nat} {ats : Array TypeId} {kt et : TypeId} (ho : o.op = .call { callee := .builtin .len, args := #[x], argTypes := ats }) (ha : ats[0]? = some t) (ht : lk E.tab t = some ⟨td, tz, tb, tr⟩) (hd : td = .map kt et) (hx : evO s x = some (.map id)) (hb : lk h.b id = some (some (.fm q g c has val))) (hc : c ≤ maxLen) : Yl true E k B s h o (vi c) := fun U m a w r => by
  obtain ⟨b, ents, clock, e1, e2, e3, hM⟩ := r.evFm hx hb
  have hblt : b < w.heap.size := (Array.getElem?_eq_some_iff.1 e3).1
  refine ⟨.int .i64 c, .d (.int .i64 c (lenR hc)), fun w' hw => ?_⟩
  have hu := und ht w'; rw [hd] at hu
  have hb' : w'.heap[b]? = some (.map ents clock) := by rw [hw rfl b hblt]; exact e3
  simp [execOp, ho, resolve, invoke, builtin, Builtin.len_, ha, hu, e2, MapKept.run_getObj_map hb', goInt, hM.size]
end
end Go.Proofs.Ythkoinngmcpjgaa
