/-
  Arguments opened by their type's leaves: what an argument that reads as data says of its cells, whatever structs and arrays it is made of. Conditions: none.
-/
import Derived.Test.YtmgckodihnmjoaaW5
import Derived.OpenShut
import Derived.Deep.Slices
import Derived.ProofKit
set_option linter.unusedVariables false
set_option linter.unusedSimpArgs false
namespace Go.Proofs.Ytmgckodihnmjoaa
open Go.RowKit Go.WideShapes Go.ChangeShapes

/-- A type's cells: where each lies, and of which type it is. -/
def leavesF (lv : TypeId → Option (List (Nat × TypeId))) : List Field → Option (List (Nat × TypeId))
  | [] => some []
  | f :: fs => match lv f.type, leavesF lv fs with
    | some a, some b => some (a.map (fun p => (f.offset + p.1, p.2)) ++ b)
    | _, _ => none
def leaves (P : Program) : Nat → TypeId → Option (List (Nat × TypeId))
  | 0, _ => none
  | d + 1, t => match P.underlying t with
    | some (.struct fs) => leavesF (leaves P d) fs.toList
    | some (.array n e) => (leaves P d e).map fun l => (List.range n).flatMap fun i => l.map fun p => (i * P.cellsOf e + p.1, p.2)
    | some .bool => some [(0, t)]
    | some (.int _) => some [(0, t)]
    | some (.slice _) => some [(0, t)]
    | _ => none
theorem leavesF_mem {lv : TypeId → Option (List (Nat × TypeId))} {fs : List Field} {ls : List (Nat × TypeId)} (h : leavesF lv fs = some ls) {p : Nat × TypeId} (hp : p ∈ ls) :
    ∃ (i : Nat) (f : Field) (l : List (Nat × TypeId)) (q : Nat × TypeId), fs[i]? = some f ∧ lv f.type = some l ∧ q ∈ l ∧ p = (f.offset + q.1, q.2) := by
  induction fs generalizing ls with
  | nil => simp [leavesF] at h; subst h; simp at hp
  | cons f fs ih =>
    unfold leavesF at h
    cases h1 : lv f.type with
    | none => simp [h1] at h
    | some a =>
      cases h2 : leavesF lv fs with
      | none => simp [h1, h2] at h
      | some b =>
        simp [h1, h2] at h
        subst h
        rcases List.mem_append.1 hp with hp | hp
        · obtain ⟨q, hq, rfl⟩ := List.mem_map.1 hp
          exact ⟨0, f, a, q, rfl, h1, hq, rfl⟩
        · obtain ⟨i, f', l, q, h3, h4, h5, h6⟩ := ih h2 hp
          exact ⟨i + 1, f', l, q, h3, h4, h5, h6⟩
section
variable {H : Type} {enc : TypeId × Value → H} {P : Program} {w : World} {base : Nat} {spare : Nat → Bool} {held : Bool}
theorem get_drop_take {cs : List Value} {a n o : Nat} {v : Value} (h : ((cs.drop a).take n)[o]? = some v) : cs[a + o]? = some v := by
  rw [List.getElem?_take] at h
  split at h
  · rwa [List.getElem?_drop] at h
  · cases h
theorem leaves_trod (d : Nat) : ∀ (t : TypeId) (ls : List (Nat × TypeId)) (fuel : Nat) (cs : List Value) (x : DataW H × List MemPlace), leaves P d t = some ls → DataW.trod enc P w base spare held fuel t cs = some x →
    ∀ p ∈ ls, ∃ v fuel' y, cs[p.1]? = some v ∧ DataW.trod enc P w base spare held fuel' p.2 [v] = some y := by
  induction d with
  | zero => intro t ls fuel cs x hl; simp [leaves] at hl
  | succ d ih =>
    intro t ls fuel cs x hl h p hp
    unfold leaves at hl
    split at hl
    · rename_i fs hu
      obtain ⟨xs, n, _, _, _, hlen, hf⟩ := DataW.trod_struct hu h
      obtain ⟨i, f, l, q, h1, h2, h3, rfl⟩ := leavesF_mem hl hp
      have hi : i < fs.size := by
        have := (List.getElem?_eq_some_iff.1 h1).1
        simpa using this
      have hfi : fs[i]? = some f := by rw [← Array.getElem?_toList]; exact h1
      have ht := hf i f hfi
      have hx : xs[i]? = some (xs[i]'(by omega)) := List.getElem?_eq_getElem (by omega)
      rw [hx] at ht
      obtain ⟨v, fuel', y, h4, h5⟩ := ih f.type l n _ _ h2 ht q h3
      exact ⟨v, fuel', y, get_drop_take h4, h5⟩
    · rename_i n e hu
      obtain ⟨xs, m, _, _, _, hlen, hf⟩ := DataW.trod_array hu h
      obtain ⟨l, h2, rfl⟩ := Option.map_eq_some_iff.1 hl
      obtain ⟨i, hi, hp⟩ := List.mem_flatMap.1 hp
      obtain ⟨q, hq, rfl⟩ := List.mem_map.1 hp
      rw [List.mem_range] at hi
      have ht := hf i hi
      have hx : xs[i]? = some (xs[i]'(by omega)) := List.getElem?_eq_getElem (by omega)
      rw [hx] at ht
      obtain ⟨v, fuel', y, h4, h5⟩ := ih e l m _ _ h2 ht q hq
      exact ⟨v, fuel', y, get_drop_take h4, h5⟩
    · rename_i hu
      obtain ⟨b, rfl, _⟩ := DataW.trod_bool hu h
      injection hl with hl; subst hl
      rw [List.mem_singleton] at hp; subst hp
      exact ⟨_, fuel, x, rfl, h⟩
    · rename_i k hu
      obtain ⟨n, rfl, _⟩ := DataW.trod_int hu h
      injection hl with hl; subst hl
      rw [List.mem_singleton] at hp; subst hp
      exact ⟨_, fuel, x, rfl, h⟩
    · rename_i e hu
      injection hl with hl; subst hl
      rw [List.mem_singleton] at hp; subst hp
      rcases Deep.open_slice hu h with ⟨rfl, _⟩ | ⟨a, len, cap, mm, n, D, Pl, rfl, _⟩
      · exact ⟨_, fuel, x, rfl, h⟩
      · exact ⟨_, fuel, x, rfl, h⟩
    · cases hl
theorem okWide_array {n : Nat} {e t : TypeId} {r : Reach} {b0 : Nat} {v : Value} (ht : P.underlying t = some (.array n e)) (h : Value.okWide P w r b0 t v) : ∃ cs, v = .agg cs ∧ cs.size = P.cellsOf t := by
  simp only [Value.okWide, ht] at h
  obtain ⟨cs, h1, h2, _⟩ := h
  exact ⟨cs, h1, h2⟩
/-- A number among the leaves. -/
theorem leaf_int {k : IntKind} {u : TypeId} (hu : P.underlying u = some (.int k)) {fuel : Nat} {v : Value} {y : DataW H × List MemPlace} (h : DataW.trod enc P w base spare held fuel u [v] = some y) : ∃ n, v = .int k n ∧ (Lit.int k n).wf = true := by
  obtain ⟨n, h1, _, h2⟩ := DataW.trod_int hu h
  simp at h1
  exact ⟨n, h1, h2⟩
theorem leaf_bool {u : TypeId} (hu : P.underlying u = some .bool) {fuel : Nat} {v : Value} {y : DataW H × List MemPlace} (h : DataW.trod enc P w base spare held fuel u [v] = some y) : ∃ b, v = .bool b := by
  obtain ⟨b, h1, _⟩ := DataW.trod_bool hu h
  simp at h1
  exact ⟨b, h1⟩
/-- A struct or an array by value, all of whose leaves are numbers of one type. -/
theorem agg_ints {q : IntKind} {t u : TypeId} {v : Value} {dd : DataW H} {ps : List MemPlace} (m : Nat) (hl : leaves P 6 t = some ((List.range m).map fun j => (j, u))) (hu : P.underlying u = some (.int q)) (hC : P.cellsOf t = m)
    (hagg : ∃ cs, v = .agg cs ∧ cs.size = P.cellsOf t) (h : DataW.Trod enc P w base spare held t v dd ps) : ∃ f : Nat → Int, v = .agg ((List.range m).map fun j => Value.int q (f j)).toArray ∧ ∀ j, j < m → (Lit.int q (f j)).wf = true := by
  obtain ⟨cs, rfl, hsz⟩ := hagg
  obtain ⟨fuel, h⟩ := h
  have hg : ∀ j, j < m → ∃ n, cs[j]? = some (.int q n) ∧ (Lit.int q n).wf = true := fun j hj => by
    obtain ⟨v, f', y, h1, h2⟩ := leaves_trod 6 t _ fuel _ _ hl h (j, u) (List.mem_map.2 ⟨j, by simpa using hj, rfl⟩)
    obtain ⟨n, rfl, h3⟩ := leaf_int hu h2
    exact ⟨n, by simpa [Value.cells] using h1, h3⟩
  refine ⟨fun j => match cs[j]? with | some (.int _ n) => n | _ => 0, ?_, fun j hj => ?_⟩
  · refine congrArg Value.agg (Array.ext_getElem? fun j => ?_)
    by_cases hj : j < m
    · obtain ⟨n, h1, _⟩ := hg j hj
      simp [hj, h1]
    · rw [Array.getElem?_eq_none (by omega), Array.getElem?_eq_none (by simpa using hj)]
  · obtain ⟨n, h1, h2⟩ := hg j hj
    simp only [h1]; exact h2
/-- A slice of structs, all of whose leaves are numbers. -/
theorem rows_ints {t e u : TypeId} {a : Option Addr} {len cap : Nat} {dd : DataW H} {ps : List MemPlace} (m : Nat) (ht : P.underlying t = some (.slice e)) (hl : leaves P 6 e = some ((List.range m).map fun j => (j, u))) (hu : P.underlying u = some (.int .i64)) (hC : P.cellsOf e = m)
    (h : DataW.Trod enc P w base spare held t (.slice a len cap) dd ps) : ∃ f : Nat → Nat → Int, RdM m w a len f ∧ len ≤ cap ∧ ∀ i j, i < len → j < m → (Lit.int .i64 (f i j)).wf = true := by
  obtain ⟨fuel, h⟩ := h
  rcases Deep.open_slice ht h with ⟨h0, _⟩ | ⟨ad, len', cap', mm, n, D, Pl, hcs, hb, hlc, hm, hmm, _, hi⟩
  · simp [Value.cells] at h0
    obtain ⟨rfl, rfl, rfl⟩ := h0
    exact ⟨fun _ _ => 0, rdM_nil _ _ _ _, by omega, fun i j hi => by omega⟩
  · simp [Value.cells] at hcs
    obtain ⟨rfl, rfl, rfl⟩ := hcs
    have hg : ∀ i j, i < len → j < m → ∃ n, w.cell? (ad.add (i * m + j)) = some (.int .i64 n) ∧ (Lit.int .i64 n).wf = true := fun i j hil hj => by
      obtain ⟨cs', hc, htr⟩ := hi i (by rw [hmm]; split <;> omega)
      obtain ⟨_, hcl, hat⟩ := World.cells?_some hc
      obtain ⟨v, f', y, h1, h2⟩ := leaves_trod 6 e _ n _ _ hl htr (j, u) (List.mem_map.2 ⟨j, by simpa using hj, rfl⟩)
      obtain ⟨nn, rfl, h3⟩ := leaf_int hu h2
      refine ⟨nn, ?_, h3⟩
      have := hat j (by omega)
      rw [hC, Deep.add_add] at this
      rw [this]; exact h1
    refine ⟨fun i j => match w.cell? (ad.add (i * m + j)) with | some (.int _ n) => n | _ => 0, ⟨by unfold maxLen at hm; omega, fun i hi => ⟨ad, rfl, fun j hj => ?_⟩⟩, hlc, fun i j hi hj => ?_⟩
    · obtain ⟨n, h1, _⟩ := hg i j hi hj
      simp only [h1]
    · obtain ⟨n, h1, h2⟩ := hg i j hi hj
      simp only [h1]; exact h2
end
end Go.Proofs.Ytmgckodihnmjoaa
