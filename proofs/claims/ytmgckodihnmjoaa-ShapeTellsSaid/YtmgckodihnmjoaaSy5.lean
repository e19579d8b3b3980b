/-
  The logic's rules for what makes memory and writes it: how states go on. Conditions: none.
-/
import Derived.Test.YtmgckodihnmjoaaSy4
import Derived.Laws.CopyRow
import Derived.Laws.Append
set_option linter.unusedVariables false
set_option linter.unusedSimpArgs false
set_option maxRecDepth 20000
namespace Go.Proofs.Ytmgckodihnmjoaa
open Go.RowKit

def ext (m : Nat → Option Nat) (i : Nat) (x : Option Nat) : Nat → Option Nat := fun j => if j = i then x else m j
theorem ext_here (m : Nat → Option Nat) (i : Nat) (x : Option Nat) : ext m i x i = x := by simp [ext]
theorem ext_ne {m : Nat → Option Nat} {i j : Nat} {x : Option Nat} (h : j ≠ i) : ext m i x j = m j := by simp [ext, h]

theorem CR.mono {α : Type} {R R' : α → Value → Prop} {w w' : World} {x : Nat} {cs : List α} (h : CR R w x cs) (hx : w'.heap[x]? = w.heap[x]?) (hR : ∀ c ∈ cs, ∀ v, R c v → R' c v) : CR R' w' x cs := by
  obtain ⟨arr, t, h1, h2, h3⟩ := h
  exact ⟨arr, t, by rw [hx]; exact h1, h2, fun j c v hc hv => hR c (List.mem_of_getElem? hc) v (h3 j c v hc hv)⟩
theorem BR.mono {U U' : Nat → Prop} {m m' : Nat → Option Nat} {n n' : Nat} {w w' : World} (hU : ∀ x, U x → U' x) (hw : ∀ x, U x → w'.heap[x]? = w.heap[x]?) (hz : ∀ x z, BSize w x z → BSize w' x z) (hn : n ≤ n') (hm : ∀ i, i < n → m' i = m i)
    {mx : Option Nat} {blk : Blk} (hx : ∀ x, mx = some x → w'.heap[x]? = w.heap[x]?) (h : BR U m n w mx blk) : BR U' m' n' w' mx blk := by
  cases h with
  | cells h => exact .cells (h.mono (hx _ rfl) (fun c _ v hv => hv.mono hU hw hz hn hm))
  | dat h => exact .dat (h.mono (hx _ rfl) (fun c _ v hv => hv.mono hU hw))
  | rows hl h => exact .rows hl (h.mono (hx _ rfl) (fun c _ v hv => hv.mono hU hw))
  | rows0 => exact .rows0
  | cells0 => exact .cells0
  | dat0 => exact .dat0
  | mp ents clock h hl h1 h2 => exact .mp ents clock (by rw [hx _ rfl]; exact h) hl (fun j e r a b => (h1 j e r a b).mono hU hw hz hn hm) (fun j e r a b => (h2 j e r a b).mono hU hw hz hn hm)

theorem push_old {w w' : World} {obj : Obj} (hh : w'.heap = w.heap.push obj) {x : Nat} (hx : x < w.heap.size) : w'.heap[x]? = w.heap[x]? := by
  rw [hh, Array.getElem?_push, if_neg (by omega)]
theorem push_new {w w' : World} {obj : Obj} (hh : w'.heap = w.heap.push obj) : w'.heap[w.heap.size]? = some obj := by
  rw [hh]; simp
theorem bsize_lt {w : World} {x z : Nat} (h : BSize w x z) : x < w.heap.size := by
  obtain ⟨_, _, _, h, _⟩ := h; exact (Array.getElem?_eq_some_iff.1 h).1
theorem bsize_push {w w' : World} {obj : Obj} (hh : w'.heap = w.heap.push obj) {x z : Nat} (h : BSize w x z) : BSize w' x z := by
  have := bsize_lt h
  obtain ⟨arr, t, f, h1, h2⟩ := h
  exact ⟨arr, t, f, by rw [push_old hh this]; exact h1, h2⟩

section
variable {E : Env} {k B : Nat} {s s' : Slots} {h h' : Hp} {Q Q' : Post} {U : Nat → Prop} {m : Nat → Option Nat} {a : Act} {w w' : World}

/-- A block more, at hand. -/
theorem SR.grow (r : SR k B U m s h a w) {obj : Obj} {blk : Blk} (hh : w'.heap = w.heap.push obj) (ho : w'.os = w.os) (ht : w'.tape = w.tape) (hout : w'.output = w.output)
    (hb : BR U (ext m h.n (some w.heap.size)) (h.n + 1) w' (some w.heap.size) blk) :
    SR k B U (ext m h.n (some w.heap.size)) s ⟨h.n + 1, (h.n, some blk) :: h.b⟩ a w' ∧ Stp h.n U m h.n h.b w U (ext m h.n (some w.heap.size)) (h.n + 1) ((h.n, some blk) :: h.b) w' := by
  have hme : ∀ i, i < h.n → ext m h.n (some w.heap.size) i = m i := fun i hi => ext_ne (by omega)
  have st : Stp h.n U m h.n h.b w U (ext m h.n (some w.heap.size)) (h.n + 1) ((h.n, some blk) :: h.b) w' :=
    { hn := by omega, hm := hme, hU := fun _ h => h, size := by rw [hh]; simp, os := ho, tape := ht, output := hout, keep := fun x hx _ => push_old hh hx
      own := fun x hx ⟨id, bk, h1, h2⟩ => by
        rw [lk_cons] at h1
        split at h1
        · rename_i e; subst e; rw [ext_here] at h2; injection h2 with h2; omega
        · have := (r.heap.live id bk h1).1
          rw [hme id this] at h2
          exact ⟨id, bk, h1, h2⟩
      lim := fun x _ hx => .inl hx, hz := fun x z hz => bsize_push hh hz }
  refine ⟨r.stp st ⟨fun id bk h1 => ?_, fun id bk x h1 h2 => ?_, fun id id' bk bk' x h1 h2 h3 h4 => ?_, fun x hx => Nat.lt_of_lt_of_le (r.heap.ulow x hx) st.size⟩, st⟩
  · rw [lk_cons] at h1
    split at h1
    · rename_i e; subst e; injection h1 with h1; injection h1 with h1; subst h1
      exact ⟨Nat.lt_succ_self _, by rw [ext_here]; exact hb⟩
    · obtain ⟨g1, g2⟩ := r.heap.live id bk h1
      refine ⟨Nat.lt_succ_of_lt g1, ?_⟩
      rw [hme id g1]
      exact g2.mono (fun _ h => h) (fun x hx => push_old hh (r.heap.ulow x hx)) (fun x z hz => bsize_push hh hz) (by show h.n ≤ h.n + 1; omega) hme (fun x hx => push_old hh (r.heap.ok id bk x h1 hx).2)
  · rw [lk_cons] at h1
    split at h1
    · rename_i e; subst e; rw [ext_here] at h2; injection h2 with h2; subst h2
      exact ⟨fun hx => absurd (r.heap.ulow _ hx) (by omega), by rw [hh]; simp⟩
    · have := (r.heap.live id bk h1).1
      rw [hme id this] at h2
      obtain ⟨g1, g2⟩ := r.heap.ok id bk x h1 h2
      exact ⟨g1, Nat.lt_of_lt_of_le g2 st.size⟩
  · rw [lk_cons] at h1 h2
    split at h1
    · rename_i e; subst e; rw [ext_here] at h3; injection h3 with h3; subst h3
      split at h2
      · rename_i e; exact e
      · have := (r.heap.live id' bk' h2).1
        rw [hme id' this] at h4
        exact absurd (r.heap.ok id' bk' _ h2 h4).2 (by omega)
    · have g := (r.heap.live id bk h1).1
      rw [hme id g] at h3
      split at h2
      · rename_i e; subst e; rw [ext_here] at h4; injection h4 with h4; subst h4
        exact absurd (r.heap.ok id bk _ h1 h3).2 (by omega)
      · have g' := (r.heap.live id' bk' h2).1
        rw [hme id' g'] at h4
        exact r.heap.inj id id' bk bk' x h1 h2 h3 h4
/-- A block more, that nobody will write. -/
theorem SR.growU (r : SR k B U m s h a w) {obj : Obj} (hh : w'.heap = w.heap.push obj) (ho : w'.os = w.os) (ht : w'.tape = w.tape) (hout : w'.output = w.output) :
    SR k B (fun x => U x ∨ x = w.heap.size) m s h a w' ∧ Stp h.n U m h.n h.b w (fun x => U x ∨ x = w.heap.size) m h.n h.b w' := by
  have st : Stp h.n U m h.n h.b w (fun x => U x ∨ x = w.heap.size) m h.n h.b w' :=
    { hn := Nat.le_refl _, hm := fun _ _ => rfl, hU := fun _ h => .inl h, size := by rw [hh]; simp, os := ho, tape := ht, output := hout, keep := fun x hx _ => push_old hh hx, own := fun _ _ h => h
      lim := fun x hx h => h.elim .inl (fun e => by omega), hz := fun x z hz => bsize_push hh hz }
  refine ⟨r.stp st ⟨fun id bk h1 => ?_, fun id bk x h1 h2 => ?_, r.heap.inj, fun x hx => ?_⟩, st⟩
  · obtain ⟨g1, g2⟩ := r.heap.live id bk h1
    exact ⟨g1, g2.mono (fun _ h => .inl h) (fun x hx => push_old hh (r.heap.ulow x hx)) (fun x z hz => bsize_push hh hz) (Nat.le_refl _) (fun _ _ => rfl) (fun x hx => push_old hh (r.heap.ok id bk x h1 hx).2)⟩
  · obtain ⟨g1, g2⟩ := r.heap.ok id bk x h1 h2
    exact ⟨fun hx => hx.elim g1 (fun e => by omega), Nat.lt_of_lt_of_le g2 st.size⟩
  · rcases hx with hx | hx
    · exact Nat.lt_of_lt_of_le (r.heap.ulow x hx) st.size
    · rw [hh]; simp; omega
theorem setRow_same {w : World} {g : Nat} {arr arr' : Array Value} {t : TypeId} {f : Nat × Nat} (hg : w.heap[g]? = some (.cells arr t f)) : (w.setRow g arr').heap[g]? = some (.cells arr' t f) := setRow_heap w g arr arr' t f hg
theorem bsize_set {w : World} {g : Nat} {arr arr' : Array Value} {t : TypeId} {f : Nat × Nat} (hg : w.heap[g]? = some (.cells arr t f)) (hs : arr'.size = arr.size) {x z : Nat} (h : BSize w x z) : BSize (w.setRow g arr') x z := by
  by_cases e : x = g
  · subst e
    obtain ⟨a1, t1, f1, h1, h2⟩ := h
    rw [hg] at h1; injection h1 with h1; injection h1 with e1 e2 e3; subst e1
    exact ⟨arr', t, f, setRow_same hg, by omega⟩
  · obtain ⟨a1, t1, f1, h1, h2⟩ := h
    exact ⟨a1, t1, f1, by rw [setRow_other w g x _ e]; exact h1, h2⟩
/-- A block at hand is written. -/
theorem SR.write (r : SR k B U m s h a w) {id x : Nat} {blk blk' : Blk} {arr arr' : Array Value} {t : TypeId} (hb : lk h.b id = some (some blk)) (hx : m id = some x) (hg : w.heap[x]? = some (.cells arr t (0, 0))) (hs : arr'.size = arr.size)
    (hbr : BR U m h.n (w.setRow x arr') (some x) blk') :
    SR k B U m s ⟨h.n, (id, some blk') :: h.b⟩ a (w.setRow x arr') ∧ Stp h.n U m h.n h.b w U m h.n ((id, some blk') :: h.b) (w.setRow x arr') := by
  have hU : ∀ y, U y → (w.setRow x arr').heap[y]? = w.heap[y]? := fun y hy => setRow_other w x y _ (by rintro rfl; exact (r.heap.ok id blk y hb hx).1 hy)
  have st : Stp h.n U m h.n h.b w U m h.n ((id, some blk') :: h.b) (w.setRow x arr') :=
    { hn := Nat.le_refl _, hm := fun _ _ => rfl, hU := fun _ h => h, size := by simp [World.setRow], os := rfl, tape := rfl, output := rfl
      keep := fun y hy hn => setRow_other w x y _ (by rintro rfl; exact hn ⟨id, blk, hb, hx⟩)
      own := fun y hy ⟨i, bk, h1, h2⟩ => by
        rw [lk_cons] at h1
        split at h1
        · rename_i e; subst e; exact ⟨_, blk, hb, h2⟩
        · exact ⟨i, bk, h1, h2⟩
      lim := fun x _ hx => .inl hx, hz := fun x z hz => bsize_set hg hs hz }
  refine ⟨r.stp st ⟨fun i bk h1 => ?_, fun i bk y h1 h2 => ?_, fun i i' bk bk' y h1 h2 h3 h4 => ?_, fun y hy => Nat.lt_of_lt_of_le (r.heap.ulow y hy) st.size⟩, st⟩
  · rw [lk_cons] at h1
    split at h1
    · rename_i e; subst e; injection h1 with h1; injection h1 with h1; subst h1
      exact ⟨(r.heap.live _ _ hb).1, by rw [hx]; exact hbr⟩
    · rename_i hne
      obtain ⟨g1, g2⟩ := r.heap.live i bk h1
      exact ⟨g1, g2.mono (fun _ h => h) hU (fun x z hz => bsize_set hg hs hz) (Nat.le_refl _) (fun _ _ => rfl) (fun y hy => setRow_other w x y _ (by rintro rfl; exact hne (r.heap.inj _ _ _ _ _ hb h1 hx hy)))⟩
  · rw [lk_cons] at h1
    split at h1
    · rename_i e; subst e
      obtain ⟨g1, g2⟩ := r.heap.ok _ blk y hb h2
      exact ⟨g1, Nat.lt_of_lt_of_le g2 st.size⟩
    · obtain ⟨g1, g2⟩ := r.heap.ok i bk y h1 h2
      exact ⟨g1, Nat.lt_of_lt_of_le g2 st.size⟩
  · rw [lk_cons] at h1 h2
    split at h1
    · rename_i e; subst e
      split at h2
      · rename_i e; exact e
      · exact r.heap.inj _ _ blk bk' y hb h2 h3 h4
    · split at h2
      · rename_i e; subst e; exact r.heap.inj _ _ bk blk y h1 hb h3 h4
      · exact r.heap.inj _ _ bk bk' y h1 h2 h3 h4

/-- The cells of a value. -/
def V.cs : V → List V
  | .agg cs => cs
  | v => [v]
def cellOk : V → Bool
  | .un => false
  | .agg _ => false
  | .tup _ => false
  | _ => true
theorem dr_cell {U : Nat → Prop} {w : World} {d : D} {r : Value} (h : DR U w d r) : r.oneCell' = true ∧ r.cells = #[r] := by
  induction h with
  | rows _ _ ih => exact ih
  | _ => exact ⟨rfl, rfl⟩
theorem cellOk_one {n : Nat} {v : V} {r : Value} (h : VR U m n w v r) (hv : cellOk v = true) : r.oneCell' = true ∧ r.cells = #[r] := by
  cases h with
  | d h => exact dr_cell h
  | sl => exact ⟨rfl, rfl⟩
  | sl0 => exact ⟨rfl, rfl⟩
  | ptr => exact ⟨rfl, rfl⟩
  | map => exact ⟨rfl, rfl⟩
  | el => exact ⟨rfl, rfl⟩
  | fn => exact ⟨rfl, rfl⟩
  | ifc => exact ⟨rfl, rfl⟩
  | un => cases hv
  | agg => cases hv
  | tup => cases hv
theorem all_d (l : List D) : (l.map V.d).all cellOk = true := by simp [List.all_eq_true, cellOk]
theorem cs_ok {n : Nat} {v : V} {r : Value} (h : VR U m n w v r) (hv : v.cs.all cellOk = true) : v.cs.length = r.cells.size ∧ (∀ (j : Nat) (c : V) (u : Value), v.cs[j]? = some c → r.cells[j]? = some u → VR U m n w c u) ∧ ∀ u ∈ r.cells.toList, u.oneCell' = true := by
  cases h with
  | agg hl hh =>
    refine ⟨hl, hh, fun u hu => ?_⟩
    obtain ⟨j, hj, rfl⟩ := List.getElem_of_mem hu
    rename_i cs vs
    have hj' : j < cs.length := by rw [hl]; simpa [Value.cells] using hj
    have h1 := List.all_eq_true.1 hv _ (List.getElem_mem hj')
    exact (cellOk_one (hh j _ _ (List.getElem?_eq_getElem hj') (by simp [Value.cells])) h1).1
  | un => simp [V.cs, cellOk] at hv
  | tup => simp [V.cs, cellOk] at hv
  | d h =>
    obtain ⟨h1, h2⟩ := cellOk_one (U := U) (m := m) (n := n) (w := w) (VR.d h) rfl
    rw [h2]
    exact ⟨rfl, fun j c u hc hu => by cases j with | zero => simp [V.cs] at hc hu; subst hc; subst hu; exact .d h | succ j => simp [V.cs] at hc, fun u hu => by simp at hu; subst hu; exact h1⟩
  | sl a1 a2 a3 a4 a5 a6 => exact ⟨rfl, fun j c u hc hu => by cases j with | zero => simp [V.cs, Value.cells] at hc hu; subst hc; subst hu; exact .sl a1 a2 a3 a4 a5 a6 | succ j => simp [V.cs] at hc, fun u hu => by simp [Value.cells] at hu; subst hu; rfl⟩
  | sl0 a1 a2 => exact ⟨rfl, fun j c u hc hu => by cases j with | zero => simp [V.cs, Value.cells] at hc hu; subst hc; subst hu; exact .sl0 a1 a2 | succ j => simp [V.cs] at hc, fun u hu => by simp [Value.cells] at hu; subst hu; rfl⟩
  | ptr a1 a2 => exact ⟨rfl, fun j c u hc hu => by cases j with | zero => simp [V.cs, Value.cells] at hc hu; subst hc; subst hu; exact .ptr a1 a2 | succ j => simp [V.cs] at hc, fun u hu => by simp [Value.cells] at hu; subst hu; rfl⟩
  | el a1 a2 => exact ⟨rfl, fun j c u hc hu => by cases j with | zero => simp [V.cs, Value.cells] at hc hu; subst hc; subst hu; exact .el a1 a2 | succ j => simp [V.cs] at hc, fun u hu => by simp [Value.cells] at hu; subst hu; rfl⟩
  | map a1 a2 => exact ⟨rfl, fun j c u hc hu => by cases j with | zero => simp [V.cs, Value.cells] at hc hu; subst hc; subst hu; exact .map a1 a2 | succ j => simp [V.cs] at hc, fun u hu => by simp [Value.cells] at hu; subst hu; rfl⟩
  | fn a1 a2 a3 a4 => exact ⟨rfl, fun j c u hc hu => by cases j with | zero => simp [V.cs, Value.cells] at hc hu; subst hc; subst hu; exact .fn a1 a2 a3 a4 | succ j => simp [V.cs] at hc, fun u hu => by simp [Value.cells] at hu; subst hu; rfl⟩
  | ifc a1 => exact ⟨rfl, fun j c u hc hu => by cases j with | zero => simp [V.cs, Value.cells] at hc hu; subst hc; subst hu; exact .ifc a1 | succ j => simp [V.cs] at hc, fun u hu => by simp [Value.cells] at hu; subst hu; rfl⟩

variable {ops : Array Oper} {rest : List Oper} {o : Oper} {v : V} {d : Nat} {t : TypeId} {td : TypeDesc} {tz tb : Nat} {tr : Option Value} {x y : Operand}
theorem upon_mono {P : Program} {o : Oper} {a : Act} {K K' : Act → World → Prop} {R R' : Exit → Act → World → Prop} (hK : ∀ a w, K a w → K' a w) (hR : ∀ e a w, R e a w → R' e a w) {x : Result Next} (hx : o.upon P a K R x) : o.upon P a K' R' x := by
  cases x with
  | ok n w1 =>
    cases n <;> simp only [Oper.upon] at hx ⊢ <;> first
      | exact hK _ _ hx
      | exact hx.elim
      | (refine Calls.mono hx fun e w2 he => ?_
         cases e with
         | returned u => exact hK _ _ he
         | panicked c => exact hR _ _ _ he
         | outgrown => obtain ⟨a0, w0, q⟩ := he; exact ⟨a0, w0, hR _ _ _ q⟩)
      | exact Rows.mono hx fun v w2 h2 => hK _ _ h2
  | halt y w1 =>
    cases y <;> simp only [Oper.upon] at hx ⊢ <;> first | exact hR _ _ _ hx | exact hx.elim
theorem wpList_mono {P : Program} {ops : Array Oper} {R R' : Exit → Act → World → Prop} (hR : ∀ e a w, R e a w → R' e a w) : ∀ (l : List Oper) (a : Act) (w : World), wpList P ops R l a w → wpList P ops R' l a w
  | [], a, w, h => hR _ _ _ h
  | o :: l, a, w, h => by
    unfold wpList at h ⊢
    split
    · rename_i hw
      rw [if_pos hw] at h
      rcases h with h | ⟨h1, a0, w0, q⟩
      · exact .inl (upon_mono (fun a w => wpList_mono hR l a w) hR h)
      · exact .inr ⟨h1, a0, w0, hR _ _ _ q⟩
    · rename_i hw
      rw [if_neg hw] at h
      exact wpList_mono hR l _ _ h
theorem RP.step {m' : Nat → Option Nat} {U' : Nat → Prop} (st : Stp h.n U m h.n h.b w U' m' h'.n h'.b w') (r : SR k B U m s h a w) {l : List Oper} {a' : Act} (t : wpList E.P ops (RP k B U' m' h' w' Q) l a' w') : wpList E.P ops (RP k B U m h w Q) l a' w' := by
  refine wpList_mono (fun e a2 w2 q => RP_trans (st.low r.base) q) l a' w' t
/-- An operation that goes on to another state. g: nothing that was there is written. -/
def Nxt (o : Oper) (a : Act) (nx : Next) (a' : Act) : Prop := (∃ r, nx = .value r ∧ a' = a.put o.dst r) ∨ (nx = .skip ∧ a' = a.put o.dst undef)
def Ac (E : Env) (k B : Nat) (g : Bool) (s : Slots) (h : Hp) (o : Oper) (s' : Slots) (h' : Hp) : Prop :=
  ∀ U m a w, SR k B U m s h a w → ∃ nx a' w' U' m', (execOp a.eval o).run E.P w = .ok nx w' ∧ Nxt o a nx a' ∧ SR k B U' m' s' h' a' w' ∧ Stp B U m h.n h.b w U' m' h'.n h'.b w' ∧ (g = true → Same0 w w')
theorem RP.step' {m' : Nat → Option Nat} {U' : Nat → Prop} (st : Stp B U m h.n h.b w U' m' h'.n h'.b w') {l : List Oper} {a' : Act} (t : wpList E.P ops (RP k B U' m' h' w' Q) l a' w') : wpList E.P ops (RP k B U m h w Q) l a' w' :=
  wpList_mono (fun e a2 w2 q => RP_trans st q) l a' w' t
theorem Nxt.upon {P : Program} {nx : Next} {a' : Act} (hn : Nxt o a nx a') (K : Act → World → Prop) (R : Exit → Act → World → Prop) {w' : World} (hK : K a' w') : o.upon P a K R (.ok nx w') := by
  rcases hn with ⟨r, rfl, rfl⟩ | ⟨rfl, rfl⟩ <;> exact hK
theorem TO.ac {g : Bool} (hg : o.guard = none) (y : Ac E k B g s h o s' h') (t : TO E k B ops rest s' h' Q) : TO E k B ops (o :: rest) s h Q := fun U m a w r => by
  obtain ⟨nx, a', w', U', m', h1, h2, h3, h4, _⟩ := y U m a w r
  refine wpList_plain hg fun K hK => ?_
  unfold Oper.wp
  rw [h1]
  exact h2.upon K _ (hK _ _ (RP.step' h4 (t _ _ _ _ h3)))

/-- A block that an operation makes, at hand. -/
theorem Ac.grow {l : List V} {c : Nat} {rv : Value → Value} (hd : o.dst = some d) (hk : Nat.blt d k = true) (hn : h.n = c) (u : V)
    (hrun : ∀ U m a w, SR k B U m s h a w → ∃ (arr : Array Value) (r : Value) (w1 w' : World), (execOp a.eval o).run E.P w = .ok (.value r) w' ∧ w'.heap = w.heap.push (.cells arr t) ∧ w'.os = w.os ∧ w'.tape = w.tape ∧ w'.output = w.output ∧
      (l.length ≤ arr.size ∧ ∀ (j : Nat) (c : V) (v : Value), l[j]? = some c → arr[j]? = some v → VR U m h.n w c v) ∧
      (∀ U' m' n', c < n' → m' c = some w.heap.size → BSize w' w.heap.size arr.size → VR U' m' n' w' u r)) :
    Ac E k B true s h o ((d, u) :: s) ⟨c + 1, (c, some (.cells l)) :: h.b⟩ := fun U m a w r => by
  subst hn
  obtain ⟨arr, rv, _, w', h1, h2, h3, h4, h5, ⟨h6, h7⟩, h8⟩ := hrun U m a w r
  obtain ⟨r1, st⟩ := r.grow (w' := w') (blk := .cells l) h2 h3 h4 h5
    (.cells ⟨arr, t, push_new h2, h6, fun j c u hc hu => (h7 j c u hc hu).mono (fun _ h => h) (fun x hx => push_old h2 (r.heap.ulow x hx)) (fun x z hz => bsize_push h2 hz) (by omega) (fun i hi => ext_ne (by omega))⟩)
  refine ⟨_, _, w', _, _, h1, .inl ⟨_, rfl, rfl⟩, ?_, st.low r.base, fun _ x hx => push_old h2 hx⟩
  rw [hd]
  exact r1.put hk (h8 _ _ _ (Nat.lt_succ_self _) (ext_here _ _ _) ⟨arr, t, _, push_new h2, rfl⟩)
/-- box: a variable with a value. -/
theorem Ac.box {c : Nat} (ho : o.op = .box t x) (hd : o.dst = some d) (hk : Nat.blt d k = true) (hx : evO s x = some v) (hv : v.cs.all cellOk = true) (hn : h.n = c) :
    Ac E k B true s h o ((d, .ptr c 0) :: s) ⟨c + 1, (c, some (.cells v.cs)) :: h.b⟩ :=
  Ac.grow (t := t) (rv := id) hd hk hn _ fun U m a w r => by
    obtain ⟨c1, c2, c3⟩ := cs_ok (r.opnd hx) hv
    exact ⟨(a.eval x).cells, _, w, w.alloc (.cells (a.eval x).cells t), by simp only [execOp, ho, Instr.box, newVar, newRow, newObj, Sem.run_bind, Sem.run_pure, Result.andThen_ok, Sem.run]; rfl, rfl, rfl, rfl, rfl,
      ⟨by omega, c2⟩, fun U' m' n' h1 h2 _ => .ptr h1 h2⟩
/-- alloc: a variable. -/
theorem Ac.alloc {c : Nat} {z : Value} {l : List V} (ho : o.op = .alloc t) (hd : o.dst = some d) (hk : Nat.blt d k = true) (ht : lk E.tab t = some ⟨td, tz, tb, tr⟩) (hz : tr = some z) (hl : absL z.cells.toList = some l) (hn : h.n = c) :
    Ac E k B true s h o ((d, .ptr c 0) :: s) ⟨c + 1, (c, some (.cells l)) :: h.b⟩ :=
  Ac.grow (t := t) (rv := id) hd hk hn _ fun U m a w r => by
    obtain ⟨c1, c2⟩ := absL_ok (U := U) (m := m) (n := h.n) (w := w) hl
    exact ⟨z.cells, _, w, w.alloc (.cells z.cells t), by simp only [execOp, ho, Instr.alloc, zer ht hz, newVar, newRow, newObj, Sem.run_bind, Sem.run_pure, Result.andThen_ok, Sem.run]; rfl, rfl, rfl, rfl, rfl,
      ⟨by simp [c1], fun j c v h1 h2 => c2 j c v h1 (by simpa using h2)⟩, fun U' m' n' h1 h2 _ => .ptr h1 h2⟩
end
end Go.Proofs.Ytmgckodihnmjoaa
