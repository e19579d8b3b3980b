/-
  The reckoner: operations that make and write, all kinds. Conditions: none.
-/
import Derived.Test.YtmgckodihnmjoaaX6
set_option linter.unusedVariables false
set_option linter.unusedSimpArgs false
set_option maxRecDepth 20000
namespace Go.Proofs.Ytmgckodihnmjoaa
open Go.RowKit

section
variable {E : Env} {k B : Nat} {s s' : Slots} {h h' : Hp} {Q Q' : Post} {U : Nat → Prop} {m : Nat → Option Nat} {a : Act} {w w' : World} {o : Oper} {v : V} {d n : Nat} {t u e : TypeId} {td ed : TypeDesc} {tz tb ez eb : Nat} {tr er : Option Value} {x y : Operand} {ρ g : Bool} {ops : Array Oper} {rest : List Oper} {K K' : Slots → Hp → Prop}

/-- A store into a row that is told element by element. -/
theorem storeE_run {e id i j n : Nat} {f : Nat → List D} {ds fi : List D} (r : SR k B U m s h a w) (ho : o.op = .store t x y) (ht : lk E.tab t = some ⟨td, tz, tb, tr⟩) (hx : evO s x = some (.el e id i j)) (hb : lk h.b id = some (some (.rows n e f))) (hy : evO s y = some v) (hcs : v.cs = ds.map .d) (hz : ds.length = tz)
    (hi : i < n) (he : 0 < e) (hp : putN j ds (f i) = some fi) :
    ∃ w', (execOp a.eval o).run E.P w = .ok .skip w' ∧ SR k B U m s ⟨h.n, (id, some (.rows n e (fun q => selL (Nat.beq q i) fi (f q)))) :: h.b⟩ a w' ∧ Stp h.n U m h.n h.b w U m h.n ((id, some (.rows n e (fun q => selL (Nat.beq q i) fi (f q)))) :: h.b) w' := by
  obtain ⟨b, h1, h2, h3⟩ := r.evEl hx
  obtain ⟨_, hbr⟩ := r.heap.live id _ hb
  rw [h1] at hbr
  have hbr0 := hbr
  cases hbr with | rows hlen hbr =>
  have hput := flatN_put (r := j) (ds := ds) hlen hi hp
  obtain ⟨p1, p2⟩ := putN_okD hp
  have hfl : fi.length = e := by rw [← p1, ← hlen i hi]; simp [dput]; omega
  have hlen' : ∀ q, q < n → ((fun q => selL (Nat.beq q i) fi (f q)) q).length = e := fun q hq => by
    show (selL _ _ _).length = e
    rw [selL_eq]
    cases Nat.beq q i
    · exact hlen q hq
    · exact hfl
  have hrl : j + ds.length ≤ e := by rw [← hlen i hi]; exact p2
  have hN := flatN_len hlen
  have hlt : i * e + e ≤ n * e := by
    have : (i + 1) * e ≤ n * e := Nat.mul_le_mul_right _ hi
    rwa [Nat.add_mul, Nat.one_mul] at this
  -- the same block, as a row of data
  obtain ⟨r1, st1⟩ := r.reblk (blk' := .dat (flatN n f)) hb (by rw [h1]; exact .dat hbr)
  have hc : v.cs.all cellOk = true := by rw [hcs]; exact all_d ds
  obtain ⟨arr, et, g1, g2, g3⟩ := hbr
  have hvcs := cs_ok (r.opnd hy) hc
  obtain ⟨c1, c2, c3⟩ := hvcs
  have hcl : (a.eval y).cells.size = ds.length := by rw [← c1, hcs]; simp
  have hst := run_storeCells_at (P := E.P) b (i * e + j) et (a.eval y).cells.toList 0 arr w g1 (by simp only [Array.length_toList]; omega) c3
  simp only [Nat.add_zero] at hst
  have hasz : (arr.toList.take (i * e + j) ++ (a.eval y).cells.toList ++ arr.toList.drop (i * e + j + (a.eval y).cells.toList.length)).toArray.size = arr.size := by
    simp only [List.size_toArray, List.length_append, List.length_take, List.length_drop, Array.length_toList]; omega
  have hU : ∀ z, U z → (w.setRow b (arr.toList.take (i * e + j) ++ (a.eval y).cells.toList ++ arr.toList.drop (i * e + j + (a.eval y).cells.toList.length)).toArray).heap[z]? = w.heap[z]? := fun z hz => setRow_other w b z _ (by rintro rfl; exact (r.heap.ok id _ z hb h1).1 hz)
  have hmo : ∀ c u, DR U w c u → DR U (w.setRow b (arr.toList.take (i * e + j) ++ (a.eval y).cells.toList ++ arr.toList.drop (i * e + j + (a.eval y).cells.toList.length)).toArray) c u := fun c u h5 => h5.mono (fun _ h => h) hU
  obtain ⟨r2, st2⟩ := r.write (blk' := .rows n e (fun q => selL (Nat.beq q i) fi (f q))) hb h1 g1 hasz
    (.rows hlen' ⟨_, et, setRow_same g1, by rw [hasz, hput]; simp only [dput, List.length_append, List.length_take, List.length_drop]; omega, fun p c u hc2 hu => by
      rw [hput] at hc2
      have hu' : (arr.toList.take (i * e + j) ++ (a.eval y).cells.toList ++ arr.toList.drop (i * e + j + (a.eval y).cells.toList.length))[p]? = some u := by simpa using hu
      have t1 : ((flatN n f).take (i * e + j)).length = i * e + j := by rw [List.length_take]; omega
      have t2 : (arr.toList.take (i * e + j)).length = i * e + j := by rw [List.length_take, Array.length_toList]; omega
      have t3 : (a.eval y).cells.toList.length = ds.length := by rw [Array.length_toList]; exact hcl
      rcases get_append3' hc2 with ⟨a1, a2⟩ | ⟨a1, a2, a3⟩ | ⟨a1, a2⟩ <;> rcases get_append3' hu' with ⟨b1, b2⟩ | ⟨b1, b2, b3⟩ | ⟨b1, b2⟩ <;> try omega
      · rw [List.getElem?_take, if_pos (by omega)] at a2 b2; exact hmo c u (g3 p c u a2 (by simpa using b2))
      · rw [t1] at a3; rw [t2] at b3
        have := c2 (p - (i * e + j)) (.d c) u (by rw [hcs, List.getElem?_map, a3]; rfl) (by simpa using b3)
        cases this with | d g => exact hmo c u g
      · rw [t1, List.getElem?_drop] at a2
        rw [t2, List.getElem?_drop] at b2
        refine hmo c u (g3 p c u ?_ ?_)
        · rwa [show i * e + j + ds.length + (p - (i * e + j + ds.length)) = p by omega] at a2
        · rw [t3, show i * e + j + ds.length + (p - (i * e + j + ds.length)) = p by omega] at b2; simpa using b2⟩)
  refine ⟨_, ?_, r2, st2⟩
  have hcs' : ¬ ((a.eval y).cells.size ≠ tz) := by omega
  simp only [execOp, ho, Instr.storeAt, h2, Instr.sureAddr, Sem.run_bind, Sem.run_pure, Result.andThen_ok, storeVar, szo ht w, if_neg hcs', hst]
theorem Ac.storeE {e id i j n : Nat} {f : Nat → List D} {ds fi : List D} (ho : o.op = .store t x y) (hd : o.dst = none) (ht : lk E.tab t = some ⟨td, tz, tb, tr⟩) (hx : evO s x = some (.el e id i j)) (hb : lk h.b id = some (some (.rows n e f))) (hy : evO s y = some v) (hcs : v.cs = ds.map .d) (hz : ds.length = tz)
    (hi : i < n) (he : 0 < e) (hp : putN j ds (f i) = some fi) : Ac E k B false s h o s ⟨h.n, (id, some (.rows n e (fun q => selL (Nat.beq q i) fi (f q)))) :: h.b⟩ := fun U m a w r => by
  obtain ⟨w', h1, h2, h3⟩ := storeE_run r ho ht hx hb hy hcs hz hi he hp
  refine ⟨_, _, w', U, m, h1, .inr ⟨rfl, rfl⟩, ?_, h3.low r.base, fun h => by cases h⟩
  rw [hd]; exact h2
theorem flat_ne {n e : Nat} {f : Nat → List D} (hl : ∀ i, i < n → (f i).length = e) (he : 0 < e) (h : flatN n f = []) : n = 0 := by
  have h1 : n * e = 0 := by rw [← flatN_len hl, h]; rfl
  rcases Nat.mul_eq_zero.1 h1 with h | h
  · exact h
  · omega
theorem blt_iff {a b : Nat} : Nat.blt a b = true ↔ a < b := ⟨Nat.le_of_ble_eq_true, Nat.ble_eq_true_of_le⟩
theorem blt_false {a b : Nat} (h : b ≤ a) : Nat.blt a b = false := by
  cases hb : Nat.blt a b
  · rfl
  · have := blt_iff.1 hb; omega
/-- A row behind a row. -/
noncomputable def appF (n : Nat) (f g : Nat → List D) : Nat → List D := fun i => selL (Nat.blt i n) (f i) (g (i - n))
theorem appF_flat {n nn : Nat} {f g : Nat → List D} : flatN (n + nn) (appF n f g) = flatN n f ++ flatN nn g := by
  rw [← flatN_app]
  exact flatN_ext fun i _ => selL_eq _ _ _
theorem appF_len {n nn e : Nat} {f g : Nat → List D} (hf : ∀ i, i < n → (f i).length = e) (hg : ∀ i, i < nn → (g i).length = e) : ∀ i, i < n + nn → (appF n f g i).length = e := fun i hi => by
  unfold appF
  rw [selL_eq]
  by_cases h : i < n
  · rw [blt_iff.2 h]; exact hf i h
  · rw [blt_false (by omega)]; exact hg _ (by omega)
/-- What is appended to a row: rows, or one element. -/
theorem Ac.appR {id n nn : Nat} {z : Value} {f gg : Nat → List D} (ho : o.op = .call { callee := .builtin .append, args := #[x, y], argTypes := #[t, t] }) (hd : o.dst = some d) (hk : Nat.blt d k = true) (ht : lk E.tab t = some ⟨td, tz, tb, tr⟩) (hty : td = .slice e) (hte : lk E.tab e = some ⟨ed, ez, eb, er⟩)
    (hz : er = some z) (hzs : z.cells.size = ez) (hx : evO s x = some (.sl ez id 0 n)) (hb : lk h.b id = some (some (.rows n ez f))) (hB : B ≤ id) (hsrc : Src s h y ez nn ((flatN nn gg).map .d)) (hf : ∀ i, i < n → (f i).length = ez) (hgl : ∀ i, i < nn → (gg i).length = ez) (he : 0 < ez)
    (hby : (n + nn) * eb ≤ 140737488355328) (hby0 : 0 < eb) :
    Ac E k B false s h o ((d, .sl ez id 0 (n + nn)) :: dropS id s) ⟨h.n, (id, some (.rows (n + nn) ez (appF n f gg))) :: dropH id h.b⟩ :=
  Ac.append ho hd hk ht hty hte hz hzs hx hb hB (.rows hf (flat_ne hf he)) (by rw [List.length_map]; exact flatN_len hf) hsrc (hasL_map _ _) (hasL_map _ _)
    (by rw [← List.map_append, ← appF_flat]; exact .rows (appF_len hf hgl) (flat_ne (appF_len hf hgl) he)) hby hby0
theorem rows_len (r : SR k B U m s h a w) {x : Operand} {nn e : Nat} {g : Nat → List D} (hx : evO s x = some (.d (.rows nn e g))) : ∀ i, i < nn → (g i).length = e := by
  have h1 := r.evD hx
  generalize a.eval x = v at h1
  cases h1 with | rows hl _ => exact hl
theorem blk_len (r : SR k B U m s h a w) {id n e : Nat} {f : Nat → List D} (hb : lk h.b id = some (some (.rows n e f))) : ∀ i, i < n → (f i).length = e := by
  obtain ⟨_, hbr⟩ := r.heap.live id _ hb
  generalize m id = mx at hbr
  cases hbr with
  | rows hl _ => exact hl
  | rows0 => exact fun i hi => by omega
/-- Rows appended to a row at hand. -/
theorem Ac.appRR {id n nn : Nat} {z : Value} {f gg : Nat → List D} (ho : o.op = .call { callee := .builtin .append, args := #[x, y], argTypes := #[t, t] }) (hd : o.dst = some d) (hk : Nat.blt d k = true) (ht : lk E.tab t = some ⟨td, tz, tb, tr⟩) (hty : td = .slice e) (hte : lk E.tab e = some ⟨ed, ez, eb, er⟩)
    (hz : er = some z) (hzs : z.cells.size = ez) (hx : evO s x = some (.sl ez id 0 n)) (hb : lk h.b id = some (some (.rows n ez f))) (hB : B ≤ id) (hy : evO s y = some (.d (.rows nn ez gg))) (he : 0 < ez)
    (hby : (n + nn) * eb ≤ 140737488355328) (hby0 : 0 < eb) :
    Ac E k B false s h o ((d, .sl ez id 0 (n + nn)) :: dropS id s) ⟨h.n, (id, some (.rows (n + nn) ez (appF n f gg))) :: dropH id h.b⟩ := fun U m a w r =>
  Ac.appR ho hd hk ht hty hte hz hzs hx hb hB (Src.rows hy he) (blk_len r hb) (rows_len r hy) he hby hby0 U m a w r
/-- One element appended to a row at hand. -/
theorem Ac.appR1 {id n : Nat} {z : Value} {f : Nat → List D} {cs : List D} (ho : o.op = .call { callee := .builtin .append, args := #[x, y], argTypes := #[t, t] }) (hd : o.dst = some d) (hk : Nat.blt d k = true) (ht : lk E.tab t = some ⟨td, tz, tb, tr⟩) (hty : td = .slice e) (hte : lk E.tab e = some ⟨ed, ez, eb, er⟩)
    (hz : er = some z) (hzs : z.cells.size = ez) (hx : evO s x = some (.sl ez id 0 n)) (hb : lk h.b id = some (some (.rows n ez f))) (hB : B ≤ id) (hy : evO s y = some (.d (.lst 1 cs))) (hcl : cs.length = ez) (he : 0 < ez)
    (hby : (n + 1) * eb ≤ 140737488355328) (hby0 : 0 < eb) :
    Ac E k B false s h o ((d, .sl ez id 0 (n + 1)) :: dropS id s) ⟨h.n, (id, some (.rows (n + 1) ez (appF n f (fun _ => cs)))) :: dropH id h.b⟩ := fun U m a w r =>
  Ac.appR (gg := fun _ => cs) ho hd hk ht hty hte hz hzs hx hb hB (by have := Src.lst (h := h) (e := ez) hy (by omega) he; simpa [flatN] using this) (blk_len r hb) (fun _ _ => hcl) he hby hby0 U m a w r
/-- A nil slice becomes a row at hand without a block. -/
theorem Ef.virt {tt e n : Nat} (hv : lk s tt = some (.d .nsl)) (hn : h.n = n) (q : Ef E k B g ((tt, .sl e n 0 0) :: s) ⟨n + 1, (n, some (.dat [])) :: h.b⟩ o K) : Ef E k B g s h o K := fun U m a w N R r hN => by
  subst hn
  obtain ⟨r1, st⟩ := r.virt (e := e) hv
  exact q _ _ a w N R r1 fun a' w' U' m' s' h' k1 r2 st2 hs => hN a' w' U' m' s' h' k1 r2 ((st.low r.base).trans st2) hs
theorem Ef.virtR {tt e n : Nat} {f : Nat → List D} (hv : lk s tt = some (.d .nsl)) (hn : h.n = n) (q : Ef E k B g ((tt, .sl e n 0 0) :: s) ⟨n + 1, (n, some (.rows 0 e f)) :: h.b⟩ o K) : Ef E k B g s h o K := fun U m a w N R r hN => by
  subst hn
  obtain ⟨r1, st⟩ := r.virt (e := e) hv
  have r2 : SR k B U (ext m h.n none) ((tt, .sl e h.n 0 0) :: s) ⟨h.n + 1, (h.n, some (.rows 0 e f)) :: (h.n, some (.dat [])) :: h.b⟩ a w ∧ _ := r1.reblk (id := h.n) (blk := .dat []) (blk' := .rows 0 e f) (lk_here _ _ _) (by rw [ext_here]; exact .rows0)
  have e1 : HEq ((h.n, some (Blk.rows 0 e f)) :: (h.n, some (Blk.dat [])) :: h.b) ((h.n, some (.rows 0 e f)) :: h.b) := fun i => by
    simp only [lk_cons]; split <;> rfl
  exact q _ _ a w N R (r2.1.heq e1) fun a' w' U' m' s' h' k1 r3 st3 hs => hN a' w' U' m' s' h' k1 r3 ((st.low r.base).trans ((r2.2.heq e1).trans st3)) hs
/-- A literal of one element, as a row at hand. -/
theorem SR.rows1 {c z : Nat} {ds : List D} (r : SR k B U m s ⟨n, (c, some (.dat ds)) :: h.b⟩ a w) (hz : ds.length = z) (hzp : 0 < z) (hm : m c ≠ none) : SR k B U m s ⟨n, (c, some (.rows 1 z (fun _ => ds))) :: h.b⟩ a w ∧ Stp B U m n ((c, some (.dat ds)) :: h.b) w U m n ((c, some (.rows 1 z (fun _ => ds))) :: h.b) w := by
  obtain ⟨hid, hbr⟩ := r.heap.live c _ (lk_here _ _ _)
  have r2 := r.reblk (id := c) (blk := .dat ds) (blk' := .rows 1 z (fun _ => ds)) (lk_here _ _ _) (by
    generalize m c = mx at hbr hm
    cases hbr with
    | dat hc => exact .rows (fun _ _ => hz) (by simpa [flatN] using hc)
    | dat0 => exact absurd rfl hm)
  have e1 : HEq ((c, some (Blk.rows 1 z (fun _ => ds))) :: (c, some (Blk.dat ds)) :: h.b) ((c, some (.rows 1 z (fun _ => ds))) :: h.b) := fun i => by
    simp only [lk_cons]; split <;> rfl
  exact ⟨r2.1.heq e1, r2.2.heq e1⟩
end
end Go.Proofs.Ytmgckodihnmjoaa
