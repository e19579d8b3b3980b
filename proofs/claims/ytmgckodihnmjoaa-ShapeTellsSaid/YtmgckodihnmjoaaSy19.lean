/-
  What a law is handed, opened: an argument that reads as data of a type is symbolic data of that type; what the logic says of a function is a walk. Conditions: none.
-/
import Derived.Test.YtmgckodihnmjoaaSy18
import Derived.OpenShut
import Derived.Deep.Slices
import Derived.ChangeShapes
import Derived.WideShapes
set_option linter.unusedVariables false
set_option linter.unusedSimpArgs false
set_option maxRecDepth 20000
namespace Go.Proofs.Ytmgckodihnmjoaa
open Go.RowKit Go.WideShapes Go.ChangeShapes

def OfFs (p : TypeId → List D → Prop) : List Field → List D → Prop
  | [], cs => cs = []
  | f :: fs, cs => ∃ a b, cs = a ++ b ∧ p f.type a ∧ OfFs p fs b
/-- Data of a type. -/
def OfT (tab : List (Nat × Ty)) : Nat → TypeId → List D → Prop
  | 0, _, _ => False
  | d + 1, t, cs => match lk tab t with
    | none => False
    | some ty => match ty.d with
      | .bool => ∃ b, cs = [.bool b]
      | .int k => ∃ n, cs = [.int k n] ∧ (Lit.int k n).wf = true
      | .string => ∃ s, cs = [.str s] ∧ s.size ≤ maxLen
      | .slice e => ∃ l : List (List D), l.length ≤ maxLen ∧ cs = [.lst l.length l.flatten] ∧ ∀ x ∈ l, OfT tab d e x
      | .struct fs => OfFs (OfT tab d) fs.toList cs
      | .array n e => ∃ l : List (List D), l.length = n ∧ cs = l.flatten ∧ ∀ x ∈ l, OfT tab d e x
      | _ => False
def sizeT (tab : List (Nat × Ty)) (t : TypeId) : Nat := match lk tab t with | some ty => ty.size | none => 0
def okFs (tab : List (Nat × Ty)) (p : TypeId → Bool) : List Field → Nat → Nat → Bool
  | [], o, z => o == z
  | f :: fs, o, z => (f.offset == o && p f.type) && okFs tab p fs (o + sizeT tab f.type) z
/-- The type is laid out so that this text can open it. -/
def okT (tab : List (Nat × Ty)) : Nat → TypeId → Bool
  | 0, _ => false
  | d + 1, t => match lk tab t with
    | none => false
    | some ty => match ty.d with
      | .bool => ty.size == 1
      | .int _ => ty.size == 1
      | .string => ty.size == 1
      | .slice e => ty.size == 1 && (okT tab d e && Nat.blt 0 (sizeT tab e))
      | .struct fs => okFs tab (okT tab d) fs.toList 0 ty.size
      | .array n e => okT tab d e && ty.size == n * sizeT tab e
      | _ => false
/-- Cells that data tell of. -/
structure DL (U : Nat → Prop) (w : World) (ds : List D) (cs : List Value) : Prop where
  len : ds.length = cs.length
  at_ : ∀ (j : Nat) (c : D) (v : Value), ds[j]? = some c → cs[j]? = some v → DR U w c v
theorem DL.one {U : Nat → Prop} {w : World} {c : D} {v : Value} (h : DR U w c v) : DL U w [c] [v] :=
  ⟨rfl, fun j c' v' h1 h2 => by
    cases j with
    | zero => simp at h1 h2; subst h1; subst h2; exact h
    | succ j => simp at h1⟩
theorem DL.nil {U : Nat → Prop} {w : World} : DL U w [] [] := ⟨rfl, fun j c v h => by simp at h⟩
theorem DL.app {U : Nat → Prop} {w : World} {a b : List D} {x y : List Value} (h : DL U w a x) (k : DL U w b y) : DL U w (a ++ b) (x ++ y) := by
  refine ⟨by simp [h.len, k.len], fun j c v h1 h2 => ?_⟩
  by_cases hj : j < a.length
  · rw [List.getElem?_append_left hj] at h1
    rw [List.getElem?_append_left (by rw [← h.len]; exact hj)] at h2
    exact h.at_ j c v h1 h2
  · rw [List.getElem?_append_right (by omega)] at h1
    rw [List.getElem?_append_right (by rw [← h.len]; omega), ← h.len] at h2
    exact k.at_ _ c v h1 h2
theorem flatten_len {α : Type} {e : Nat} : ∀ (l : List (List α)), (∀ x ∈ l, x.length = e) → l.flatten.length = l.length * e
  | [], _ => by simp
  | x :: l, h => by
    rw [List.flatten_cons, List.length_append, flatten_len l (fun y hy => h y (List.mem_cons_of_mem _ hy)), h x List.mem_cons_self, List.length_cons, Nat.add_mul, Nat.one_mul, Nat.add_comm]
theorem flatten_get {α : Type} {e : Nat} (he : 0 < e) : ∀ (l : List (List α)), (∀ x ∈ l, x.length = e) → ∀ (j : Nat), l.flatten[j]? = (l[j / e]?).bind (·[j % e]?)
  | [], _, j => by simp
  | x :: l, h, j => by
    have hx := h x List.mem_cons_self
    rw [List.flatten_cons]
    by_cases hj : j < e
    · rw [List.getElem?_append_left (by omega), Nat.div_eq_of_lt hj, Nat.mod_eq_of_lt hj]; rfl
    · rw [List.getElem?_append_right (by omega), flatten_get he l (fun y hy => h y (List.mem_cons_of_mem _ hy)), hx]
      obtain ⟨i, rfl⟩ : ∃ i, j = i + e := ⟨j - e, by omega⟩
      rw [Nat.add_sub_cancel, Nat.add_div_right _ he, Nat.add_mod_right, List.getElem?_cons_succ]
section
variable {H : Type} {enc : TypeId × Value → H} {E : Env} {w : World} {base : Nat} {spare : Nat → Bool} {held : Bool} {U : Nat → Prop}
theorem cells_size {t : TypeId} {ty : Ty} (h : lk E.tab t = some ty) : E.P.cellsOf t = ty.size := by
  obtain ⟨_, i, h1, h2, _⟩ := E.ok t ty h
  simp [Program.cellsOf, h1, h2]
theorem cells_sizeT {t : TypeId} {n d : Nat} (h : okT E.tab d t = true) (hn : sizeT E.tab t = n) : E.P.cellsOf t = n := by
  cases d with
  | zero => simp [okT] at h
  | succ d =>
    unfold okT at h
    unfold sizeT at hn
    split at h
    · cases h
    · rename_i ty hl
      rw [hl] at hn
      rw [cells_size hl]; exact hn
theorem row_open {p : List D → Prop} {e : Nat} (l : List Value) (n : Nat) (hl : l.length = n * e) (h : ∀ i, i < n → ∃ ds, p ds ∧ DL U w ds ((l.drop (i * e)).take e)) :
    ∃ ls : List (List D), ls.length = n ∧ (∀ x ∈ ls, p x) ∧ DL U w ls.flatten l := by
  induction n generalizing l with
  | zero => exact ⟨[], rfl, by simp, by simp at hl; subst hl; exact .nil⟩
  | succ n ih =>
    obtain ⟨d0, h1, h2⟩ := h 0 (by omega)
    obtain ⟨ls, h3, h4, h5⟩ := ih (l.drop e) (by rw [List.length_drop, hl, Nat.add_mul]; omega) (fun i hi => by
      obtain ⟨ds, h6, h7⟩ := h (i + 1) (by omega)
      exact ⟨ds, h6, by rwa [List.drop_drop, Nat.add_comm, ← Nat.succ_mul]⟩)
    refine ⟨d0 :: ls, by simp [h3], fun x hx => ?_, ?_⟩
    · rcases List.mem_cons.1 hx with rfl | hx
      · exact h1
      · exact h4 x hx
    · rw [List.flatten_cons, ← List.take_append_drop e l]
      simp only [Nat.zero_mul, List.drop_zero] at h2
      exact h2.app h5
theorem fs_open {d : Nat} (cs : List Value) (hp : ∀ t, okT E.tab d t = true → ∀ n cs' x, DataW.trod enc E.P w base spare held n t cs' = some x → ∃ ds, OfT E.tab d t ds ∧ DL U w ds cs') (fuel : Nat) :
    ∀ (fs : List Field) (o : Nat), okFs E.tab (okT E.tab d) fs o cs.length = true → (∀ f ∈ fs, ∃ x, DataW.trod enc E.P w base spare held fuel f.type ((cs.drop f.offset).take (E.P.cellsOf f.type)) = some x) →
      ∃ ds, OfFs (OfT E.tab d) fs ds ∧ DL U w ds (cs.drop o)
  | [], o, h, _ => ⟨[], rfl, by
      simp [okFs] at h; subst h; simp; exact .nil⟩
  | f :: fs, o, h, hx => by
    simp only [okFs, Bool.and_eq_true, beq_iff_eq] at h
    obtain ⟨⟨h1, h2⟩, h3⟩ := h
    obtain ⟨x, hx1⟩ := hx f List.mem_cons_self
    obtain ⟨a, ha, hda⟩ := hp _ h2 _ _ _ hx1
    obtain ⟨b, hb, hdb⟩ := fs_open cs hp fuel fs _ h3 (fun g hg => hx g (List.mem_cons_of_mem _ hg))
    rw [h1, cells_sizeT h2 rfl] at hda
    refine ⟨a ++ b, ⟨a, b, rfl, ha, hb⟩, ?_⟩
    have := hda.app hdb
    rwa [← List.drop_drop, List.take_append_drop] at this
theorem trod_open (hU : ∀ x, x < w.heap.size → U x) : ∀ (d : Nat) (t : TypeId), okT E.tab d t = true → ∀ (fuel : Nat) (cs : List Value) (x : DataW H × List MemPlace), DataW.trod enc E.P w base spare held fuel t cs = some x →
    ∃ ds, OfT E.tab d t ds ∧ DL U w ds cs := by
  intro d
  induction d with
  | zero => intro t h; simp [okT] at h
  | succ d ih =>
    intro t hok fuel cs x h
    unfold okT at hok
    split at hok
    · cases hok
    · rename_i ty hl
      have hu : E.P.underlying t = some ty.d := (E.ok t ty hl).1
      simp only [OfT, hl]
      cases hd : ty.d <;> simp only [hd] at hok hu ⊢ <;> try (cases hok; done)
      case bool =>
        obtain ⟨b, rfl, _⟩ := DataW.trod_bool hu h
        exact ⟨[.bool b], ⟨b, rfl⟩, .one (.bool b)⟩
      case int k =>
        obtain ⟨n, rfl, _, hw⟩ := DataW.trod_int hu h
        exact ⟨[.int k n], ⟨n, rfl, hw⟩, .one (.int k n (by simpa [Lit.wf, inR] using hw))⟩
      case string =>
        obtain ⟨n, rfl, _, hw⟩ := DataW.trod_string hu h
        exact ⟨[.str n], ⟨n, rfl, hw⟩, .one (.str n hw)⟩
      case slice e =>
        simp only [Bool.and_eq_true, beq_iff_eq] at hok
        obtain ⟨_, ho, hz⟩ := hok
        have hz := Nat.le_of_ble_eq_true hz
        rcases Deep.open_slice hu h with ⟨rfl, _⟩ | ⟨a, len, cap, m, n, D', Pl, rfl, _, hlc, hm, hmm, _, hi⟩
        · exact ⟨[.lst 0 []], ⟨[], by simp, rfl, by simp⟩, .one DR.nsl.nil_lst⟩
        · have hce := cells_sizeT (E := E) ho rfl
          have hlm : len ≤ m := by rw [hmm]; split <;> omega
          have hF : ∀ i, ∃ ds, i < len → OfT E.tab d e ds ∧ ds.length = sizeT E.tab e ∧ ∀ r c, ds[r]? = some c → ∃ v, w.cell? ((a.add (i * sizeT E.tab e)).add r) = some v ∧ DR U w c v := fun i => by
            by_cases hil : i < len
            · obtain ⟨cs', hc, ht⟩ := hi i (by omega)
              obtain ⟨_, hcl, hat⟩ := World.cells?_some hc
              obtain ⟨ds, h1, h2⟩ := ih e ho _ _ _ ht
              refine ⟨ds, fun _ => ⟨h1, by rw [h2.len, hcl, hce], fun r c hr => ?_⟩⟩
              have hrl : r < ds.length := (List.getElem?_eq_some_iff.1 hr).1
              have hrc : r < cs'.length := by rw [← h2.len]; exact hrl
              refine ⟨cs'[r], ?_, h2.at_ r c _ hr (List.getElem?_eq_getElem hrc)⟩
              rw [← hce]
              rw [hat r (by omega), List.getElem?_eq_getElem hrc]
            · exact ⟨[], fun h => absurd h hil⟩
          obtain ⟨F, hF⟩ := Classical.axiomOfChoice hF
          have hlen : ∀ x ∈ (List.range len).map F, x.length = sizeT E.tab e := fun x hx => by
            obtain ⟨i, hi', rfl⟩ := List.mem_map.1 hx
            exact (hF i (List.mem_range.1 hi')).2.1
          have hat : ∀ (j : Nat) (c : D), ((List.range len).map F).flatten[j]? = some c → ∃ v, w.cell? (a.add j) = some v ∧ DR U w c v := fun j c hj => by
            rw [flatten_get hz _ hlen] at hj
            obtain ⟨y, h1, h2⟩ := Option.bind_eq_some_iff.1 hj
            rw [List.getElem?_map] at h1
            obtain ⟨i, h3, rfl⟩ := Option.map_eq_some_iff.1 h1
            obtain ⟨h4, h5⟩ := List.getElem?_eq_some_iff.1 h3
            simp only [List.length_range] at h4
            simp only [List.getElem_range] at h5
            subst h5
            have := (hF _ h4).2.2 _ c h2
            rwa [Deep.add_add, Nat.div_add_mod'] at this
          refine ⟨[.lst len ((List.range len).map F).flatten], ⟨(List.range len).map F, by simp; omega, by simp, fun x hx => ?_⟩, .one (.lst (fun j => (w.cell? (a.add j)).getD undef) hlc hm (fun j hj => ?_) (fun j c hj => ?_))⟩
          · obtain ⟨i, hi', rfl⟩ := List.mem_map.1 hx
            exact (hF i (List.mem_range.1 hi')).1
          · obtain ⟨v, h1, _⟩ := hat j _ (List.getElem?_eq_getElem hj)
            exact ⟨a, rfl, hU _ (by rw [← add_block a j]; exact World.block_lt_of_cell? w _ h1), by rw [h1]; rfl⟩
          · obtain ⟨v, h1, h2⟩ := hat j c hj
            rw [h1]; exact h2
      case struct fs =>
        obtain ⟨xs, n, _, _, hcl, hlen, hf⟩ := DataW.trod_struct hu h
        rw [cells_size hl] at hcl
        rw [← hcl] at hok
        obtain ⟨ds, h1, h2⟩ := fs_open (U := U) cs ih n fs.toList 0 hok (fun f hf' => by
          obtain ⟨i, hi, rfl⟩ := List.getElem_of_mem hf'
          have hi' : i < fs.size := by simpa using hi
          have := hf i fs[i] (by simp [hi'])
          rw [List.getElem?_eq_getElem (by omega)] at this
          exact ⟨_, by simpa using this⟩)
        exact ⟨ds, h1, h2⟩
      case array n e =>
        simp only [Bool.and_eq_true, beq_iff_eq] at hok
        obtain ⟨xs, m, _, _, hcl, hlen, hf⟩ := DataW.trod_array hu h
        have hce := cells_sizeT (E := E) hok.1 rfl
        rw [cells_size hl, hok.2] at hcl
        obtain ⟨ls, h1, h2, h3⟩ := row_open (U := U) (w := w) (p := OfT E.tab d e) cs n hcl (fun i hi => by
          have := hf i hi
          rw [List.getElem?_eq_getElem (by omega), hce] at this
          exact ih e hok.1 _ _ _ this)
        exact ⟨ls.flatten, ⟨ls, h1, rfl, h2⟩, h3⟩
/-- A value of a type. -/
def OfV (tab : List (Nat × Ty)) (d : Nat) (t : TypeId) (x : V) : Prop := match lk tab t with
  | none => False
  | some ty => match ty.d with
    | .struct _ => ∃ ds, x = .agg (ds.map .d) ∧ OfT tab d t ds
    | .array _ _ => ∃ ds, x = .agg (ds.map .d) ∧ OfT tab d t ds
    | _ => ∃ c, x = .d c ∧ OfT tab d t [c]
def OfVs (tab : List (Nat × Ty)) (d : Nat) : List TypeId → List V → Prop
  | [], xs => xs = []
  | t :: ts, xs => ∃ x r, xs = x :: r ∧ OfV tab d t x ∧ OfVs tab d ts r
theorem DL.aggV {n : Nat} {m : Nat → Option Nat} {ds : List D} {cs : Array Value} (h : DL U w ds cs.toList) : VR U m n w (.agg (ds.map .d)) (.agg cs) := by
  refine .agg (by simp [h.len]) (fun j c v h1 h2 => ?_)
  rw [List.getElem?_map] at h1
  obtain ⟨x, h3, rfl⟩ := Option.map_eq_some_iff.1 h1
  exact .d (h.at_ j x v h3 (by rw [Array.getElem?_toList]; exact h2))
theorem DL.oneV {n : Nat} {m : Nat → Option Nat} {ds : List D} {v : Value} {p : List D → Prop} (hp : p ds) (h : DL U w ds [v]) : ∃ c, p [c] ∧ VR U m n w (.d c) v := by
  obtain ⟨c, rfl⟩ : ∃ c, ds = [c] := by
    match ds, h.len with
    | [c], _ => exact ⟨c, rfl⟩
  exact ⟨c, hp, .d (h.at_ 0 c v rfl rfl)⟩
theorem arg_open (hU : ∀ x, x < w.heap.size → U x) {n d : Nat} {m : Nat → Option Nat} {t : TypeId} {v : Value} {r : Reach} {b0 : Nat} {dd : DataW H} {ps : List MemPlace} (hok : okT E.tab d t = true) (hval : Value.okWide E.P w r b0 t v) (h : DataW.Trod enc E.P w base spare held t v dd ps) :
    ∃ x, OfV E.tab d t x ∧ VR U m n w x v := by
  obtain ⟨fuel, h⟩ := h
  obtain ⟨ds, h1, h2⟩ := trod_open (U := U) hU d t hok fuel _ _ h
  have hk := hok
  cases d with
  | zero => simp [okT] at hk
  | succ d =>
    unfold okT at hk
    unfold OfV
    split at hk
    · cases hk
    · rename_i ty hl
      have hu : E.P.underlying t = some ty.d := (E.ok t ty hl).1
      cases hd : ty.d <;> simp only [hd] at hk hu <;> try (cases hk; done)
      case bool =>
        obtain ⟨b, rfl⟩ := okWide_bool hu hval
        obtain ⟨c, h3, h4⟩ := DL.oneV (n := n) (m := m) h1 h2
        exact ⟨.d c, ⟨c, rfl, h3⟩, h4⟩
      case int k =>
        obtain ⟨b, rfl⟩ := okWide_int hu hval
        obtain ⟨c, h3, h4⟩ := DL.oneV (n := n) (m := m) h1 h2
        exact ⟨.d c, ⟨c, rfl, h3⟩, h4⟩
      case string =>
        obtain ⟨b, rfl⟩ := okWide_string hu hval
        obtain ⟨c, h3, h4⟩ := DL.oneV (n := n) (m := m) h1 h2
        exact ⟨.d c, ⟨c, rfl, h3⟩, h4⟩
      case slice e =>
        obtain ⟨a, len, cap, rfl⟩ := okWide_slice hu hval
        obtain ⟨c, h3, h4⟩ := DL.oneV (n := n) (m := m) h1 h2
        exact ⟨.d c, ⟨c, rfl, h3⟩, h4⟩
      case struct fs =>
        have : ∃ cs, v = .agg cs := by
          simp only [Value.okWide, hu] at hval
          obtain ⟨cs, h3, _⟩ := hval
          exact ⟨cs, h3⟩
        obtain ⟨cs, rfl⟩ := this
        exact ⟨_, ⟨ds, rfl, h1⟩, DL.aggV h2⟩
      case array k e =>
        have : ∃ cs, v = .agg cs := by
          simp only [Value.okWide, hu] at hval
          obtain ⟨cs, h3, _⟩ := hval
          exact ⟨cs, h3⟩
        obtain ⟨cs, rfl⟩ := this
        exact ⟨_, ⟨ds, rfl, h1⟩, DL.aggV h2⟩
def okTs (tab : List (Nat × Ty)) (d : Nat) : List TypeId → Bool
  | [] => true
  | t :: ts => okT tab d t && okTs tab d ts
theorem args_open (hU : ∀ x, x < w.heap.size → U x) {n d : Nat} {m : Nat → Option Nat} {r : Reach} {b0 : Nat} : ∀ (ts : List TypeId) (vs : List Value) (ds : List (DataW H)) (ps : List MemPlace), okTs E.tab d ts = true →
    (∀ (j : Nat) t v, ts[j]? = some t → vs[j]? = some v → Value.okWide E.P w r b0 t v) → DataW.TrodAll enc E.P w base spare held ts vs ds ps → ∃ xs, OfVs E.tab d ts xs ∧ xs.length = vs.length ∧ ∀ (j : Nat) x v, xs[j]? = some x → vs[j]? = some v → VR U m n w x v
  | [], vs, ds, ps, _, _, h => by
    obtain ⟨rfl, _, _⟩ := trodAll_nil h
    exact ⟨[], rfl, rfl, fun j x v h => by simp at h⟩
  | t :: ts, vs, ds, ps, hok, hval, h => by
    simp only [okTs, Bool.and_eq_true] at hok
    obtain ⟨v, vs, d0, ds, p, q, rfl, rfl, rfl, h0, h1⟩ := trodAll_cons h
    obtain ⟨x, hx, hxv⟩ := arg_open (U := U) (n := n) (m := m) hU hok.1 (hval 0 t v rfl rfl) h0
    obtain ⟨xs, h2, h3, h4⟩ := args_open hU (n := n) (m := m) (r := r) (b0 := b0) ts vs ds q hok.2 (fun j t' v' h1 h2 => hval (j + 1) t' v' (by simpa using h1) (by simpa using h2)) h1
    refine ⟨x :: xs, ⟨x, xs, rfl, hx, h2⟩, by simp [h3], fun j y u h5 h6 => ?_⟩
    cases j with
    | zero => simp at h5 h6; subst h5; subst h6; exact hxv
    | succ j => exact h4 j y u (by simpa using h5) (by simpa using h6)
/-- A law that the logic has shown, as a walk in the real world. -/
theorem law_top {f : FuncId} {ts : Array TypeId} {vs : Array Value} {ds : List (DataW H)} {ps : List MemPlace} {d : Nat} {r : Reach} {b0 : Nat} (law : ∀ xs, OfVs E.tab d ts.toList xs → Call E f xs ⟨0, []⟩ (fun r _ => r = vb true)) (hok : okTs E.tab d ts.toList = true)
    (hval : ∀ (j : Nat) t v, ts[j]? = some t → vs[j]? = some v → Value.okWide E.P w r b0 t v) (h : DataW.TrodAll enc E.P w base spare held ts.toList vs.toList ds ps) :
    Calls E.P f vs w fun e w' => e = .returned (.bool true) ∧ Below w.heap.size w w' := by
  obtain ⟨xs, h1, h2, h3⟩ := args_open (E := E) (U := fun x => x < w.heap.size) (n := 0) (m := fun _ => none) (r := r) (b0 := b0) (fun _ h => h) ts.toList vs.toList ds ps hok (fun j t v h1 h2 => hval j t v (by rw [← Array.getElem?_toList]; exact h1) (by rw [← Array.getElem?_toList]; exact h2)) h
  have hH : HR (fun x => x < w.heap.size) (fun _ => none) 0 [] w := ⟨fun id blk h => by simp [lk] at h, fun id blk x h => by simp [lk] at h, fun id id' blk blk' x h => by simp [lk] at h, fun _ h => h⟩
  refine (law xs h1 (fun x => x < w.heap.size) (fun _ => none) w vs hH ⟨by simpa using h2, fun j x v h4 h5 => h3 j x v h4 (by rw [Array.getElem?_toList]; exact h5)⟩).mono fun e w' ⟨r, R, U', m', h', e1, q, hv, hH', st⟩ => ?_
  subst q
  cases hv with
  | d hv =>
    cases hv
    have hno : ∀ x, ¬ Own (fun _ => none) [] x := by rintro x ⟨id, bk, h1, _⟩; simp [lk] at h1
    exact ⟨e1, ⟨st.os, st.tape, st.output, st.size, fun x hx => st.keep x hx (hno x)⟩⟩
end
end Go.Proofs.Ytmgckodihnmjoaa
