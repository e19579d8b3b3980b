/-
  The logic's rules: literals of structs and slices, stores, rows that are begun, and rows that nobody writes any more. Conditions: none.
-/
import Derived.Test.YtmgckodihnmjoaaSy7
set_option linter.unusedVariables false
set_option linter.unusedSimpArgs false
set_option maxRecDepth 20000
namespace Go.Proofs.Ytmgckodihnmjoaa
open Go.RowKit

/-- Cells laid into others. -/
def lput (l : List V) (off : Nat) (new : List V) : List V := l.take off ++ new ++ l.drop (off + new.length)
theorem lput_len {l new : List V} {off : Nat} (h : off + new.length ≤ l.length) : (lput l off new).length = l.length := by
  simp only [lput, List.length_append, List.length_take, List.length_drop]; omega
/-- A row of values, cell by cell. -/
structure PW (R : V → Value → Prop) (l : List V) (vs : List Value) : Prop where
  len : l.length = vs.length
  at_ : ∀ (j : Nat) (c : V) (v : Value), l[j]? = some c → vs[j]? = some v → R c v
theorem get_append3' {α : Type} {l1 l2 l3 : List α} {j : Nat} {u : α} (h : (l1 ++ l2 ++ l3)[j]? = some u) : (j < l1.length ∧ l1[j]? = some u) ∨ (l1.length ≤ j ∧ j < l1.length + l2.length ∧ l2[j - l1.length]? = some u) ∨ (l1.length + l2.length ≤ j ∧ l3[j - (l1.length + l2.length)]? = some u) := by
  by_cases h1 : j < l1.length
  · rw [List.append_assoc, List.getElem?_append_left h1] at h; exact .inl ⟨h1, h⟩
  · by_cases h2 : j < l1.length + l2.length
    · rw [List.append_assoc, List.getElem?_append_right (by omega), List.getElem?_append_left (by omega)] at h
      exact .inr (.inl ⟨by omega, h2, h⟩)
    · rw [List.append_assoc, List.getElem?_append_right (by omega), List.getElem?_append_right (by omega)] at h
      exact .inr (.inr ⟨by omega, by rwa [show j - l1.length - l2.length = j - (l1.length + l2.length) by omega] at h⟩)
theorem PW.put {R : V → Value → Prop} {l new : List V} {vs nw : List Value} {off : Nat} (h : PW R l vs) (hn : PW R new nw) (ho : off + new.length ≤ l.length) : PW R (lput l off new) (vs.take off ++ nw ++ vs.drop (off + nw.length)) := by
  have e1 := h.len; have e2 := hn.len
  refine ⟨by rw [lput_len ho]; simp only [List.length_append, List.length_take, List.length_drop]; omega, fun j c v hc hv => ?_⟩
  have t1 : (l.take off).length = off := by rw [List.length_take]; omega
  have t2 : (vs.take off).length = off := by rw [List.length_take]; omega
  rcases get_append3' hc with ⟨a1, a2⟩ | ⟨a1, a2, a3⟩ | ⟨a1, a2⟩ <;> rcases get_append3' hv with ⟨b1, b2⟩ | ⟨b1, b2, b3⟩ | ⟨b1, b2⟩ <;> try omega
  · rw [List.getElem?_take, if_pos (by omega)] at a2 b2; exact h.at_ j c v a2 b2
  · rw [t1] at a3; rw [t2] at b3; exact hn.at_ _ c v a3 b3
  · rw [t1, List.getElem?_drop] at a2
    rw [t2, List.getElem?_drop] at b2
    refine h.at_ j c v ?_ ?_
    · rwa [show off + new.length + (j - (off + new.length)) = j by omega] at a2
    · rwa [show off + nw.length + (j - (off + nw.length)) = j by omega] at b2
theorem foldl_put : ∀ (nw : List Value) (off i : Nat) (cells : Array Value), off + i + nw.length ≤ cells.size →
    ((nw.zipIdx i).foldl (fun cs (c, j) => cs.setIfInBounds (off + j) c) cells).toList = cells.toList.take (off + i) ++ nw ++ cells.toList.drop (off + i + nw.length)
  | [], off, i, cells, _ => by simp
  | v :: r, off, i, cells, h => by
    simp only [List.length_cons] at h
    rw [List.zipIdx_cons, List.foldl_cons, foldl_put r off (i + 1) _ (by simp; omega)]
    have e := list_seg_step cells.toList (off + i) v r (by simp; omega)
    simpa [Array.toList_setIfInBounds, Nat.add_assoc] using e

/-- The parts of a literal. -/
def vfill (place : Nat → Option (Nat × Nat)) (s : Slots) : List V → List (Nat × Operand) → Option (List V)
  | l, [] => some l
  | l, (i, x) :: rest =>
    match place i, evO s x with
    | some p, some v => bif Nat.beq v.cs.length p.2 && Nat.ble (p.1 + p.2) l.length && v.cs.all cellOk then vfill place s (lput l p.1 v.cs) rest else none
    | _, _ => none

section
variable {E : Env} {k B : Nat} {s s' : Slots} {h h' : Hp} {Q Q' : Post} {U : Nat → Prop} {m : Nat → Option Nat} {a : Act} {w w' : World} {o : Oper} {v : V} {d : Nat} {t : TypeId} {td : TypeDesc} {tz tb : Nat} {tr : Option Value} {x y : Operand} {ρ : Bool}

theorem cs_pw {n : Nat} {v : V} {r : Value} (h : VR U m n w v r) (hv : v.cs.all cellOk = true) : PW (VR U m n w) v.cs r.cells.toList := by
  obtain ⟨h1, h2, _⟩ := cs_ok h hv
  exact ⟨by simpa using h1, fun j c u hc hu => h2 j c u hc (by simpa using hu)⟩
theorem vfill_ok (r : SR k B U m s h a w) {place : Nat → Option (Nat × Nat)} : ∀ (parts : List (Nat × Operand)) (l l' : List V) (cells : Array Value), vfill place s l parts = some l' → PW (VR U m h.n w) l cells.toList →
    ∃ cells', Instr.fill place cells (parts.map fun p => (p.1, a.eval p.2)) = some cells' ∧ PW (VR U m h.n w) l' cells'.toList
  | [], l, l', cells, hf, hp => by
    simp only [vfill, Option.some.injEq] at hf; subst hf
    exact ⟨cells, rfl, hp⟩
  | (i, x) :: rest, l, l', cells, hf, hp => by
    unfold vfill at hf
    split at hf
    · rename_i p v hpl hv
      cases hc : (Nat.beq v.cs.length p.2 && Nat.ble (p.1 + p.2) l.length && v.cs.all cellOk)
      · rw [hc] at hf; cases hf
      · rw [hc] at hf
        simp only [Bool.and_eq_true] at hc
        obtain ⟨⟨c1, c2⟩, c3⟩ := hc
        have c1' := Nat.eq_of_beq_eq_true c1
        have c2' := Nat.le_of_ble_eq_true c2
        have hpw := cs_pw (r.opnd hv) c3
        have hsz : (a.eval x).cells.size = p.2 := by have := hpw.len; simp only [Array.length_toList] at this; omega
        have hle := hp.len
        simp only [Array.length_toList] at hle
        have hp2 := hp.put (off := p.1) hpw (by omega)
        have hfold := foldl_put (a.eval x).cells.toList p.1 0 cells (by simp only [Array.length_toList]; omega)
        simp only [Nat.add_zero] at hfold
        have hfold' : ((a.eval x).cells.zipIdx.foldl (fun cs (c, j) => cs.setIfInBounds (p.1 + j) c) cells).toList = cells.toList.take p.1 ++ (a.eval x).cells.toList ++ cells.toList.drop (p.1 + (a.eval x).cells.toList.length) := by
          rw [← Array.foldl_toList, Array.toList_zipIdx]; exact hfold
        rw [← hfold'] at hp2
        obtain ⟨cells', h1, h2⟩ := vfill_ok r rest _ l' _ hf hp2
        refine ⟨cells', ?_, h2⟩
        simp only [List.map_cons, Instr.fill, hpl]
        rw [if_neg (by simp; omega)]
        exact h1
    · cases hf
/-- Where the fields lie. -/
def places (tab : List (Nat × Ty)) : List Field → Option (List (Nat × Nat))
  | [] => some []
  | f :: r => match lk tab f.type, places tab r with
    | some ty, some l => some ((f.offset, ty.size) :: l)
    | _, _ => none
theorem run_places : ∀ (fs : List Field) (l : List (Nat × Nat)) (w : World), places E.tab fs = some l → (fs.mapM fun f => do pure (f.offset, ← sizeOf f.type) : Sem (List (Nat × Nat))).run E.P w = .ok l w
  | [], l, w, h => by simp only [places, Option.some.injEq] at h; subst h; rfl
  | f :: r, l, w, h => by
    simp only [places] at h
    split at h
    · rename_i ty l' h1 h2
      injection h with h; subst h
      have ih := run_places r l' w h2
      rw [List.mapM_cons]
      simp only [Sem.run_bind, szo h1, Result.andThen_ok, Sem.run_pure, ih]
    · cases h
theorem zero_pw {z : Value} {zl : List V} (hl : absL z.cells.toList = some zl) (n : Nat) : PW (VR U m n w) zl z.cells.toList := by
  obtain ⟨h1, h2⟩ := absL_ok (U := U) (m := m) (n := n) (w := w) hl
  exact ⟨h1, h2⟩
theorem Yl.buildS {fs : Array Field} {parts : Array (Nat × Operand)} {z : Value} {zl l : List V} {pl : List (Nat × Nat)} (ho : o.op = .build t parts) (ht : lk E.tab t = some ⟨td, tz, tb, tr⟩) (hd : td = .struct fs) (hz : tr = some z) (hzl : absL z.cells.toList = some zl)
    (hpl : places E.tab fs.toList = some pl) (hl : vfill (fun i => pl[i]?) s zl parts.toList = some l) : Yl ρ E k B s h o (.agg l) := fun U m a w r => by
  obtain ⟨cells', h1, h2⟩ := vfill_ok r (place := fun i => pl[i]?) parts.toList zl l z.cells hl (zero_pw hzl h.n)
  refine ⟨.agg cells', .agg (by simpa using h2.len) (fun j c v hc hv => h2.at_ j c v hc (by simpa using hv)), fun w' _ => ?_⟩
  have hu := und ht w'
  rw [hd] at hu
  have hp : (fs.mapM fun f => do pure (f.offset, ← sizeOf f.type) : Sem (Array (Nat × Nat))).run E.P w' = .ok pl.toArray w' := by
    rw [Array.mapM_eq_mapM_toList]
    have := run_places fs.toList pl w' hpl
    rw [map_eq_pure_bind]
    simp only [Sem.run_bind, this, Result.andThen_ok, Sem.run_pure]
  have hf : Instr.fill (fun i => pl[i]?) z.cells (parts.map fun p => (p.1, a.eval p.2)).toList = some cells' := by simpa using h1
  have hf' : Instr.fill (fun x => pl.toArray[x]?) z.cells (parts.map fun p => (p.1, a.eval p.2)).toList = some cells' := by simpa using hf
  simp only [execOp, ho, Instr.build, Sem.run_bind, zer ht hz, hu, Result.andThen_ok, hp, hf', Sem.run_pure]
theorem Yl.buildA {len : Nat} {e : TypeId} {ed : TypeDesc} {ez eb : Nat} {er : Option Value} {parts : Array (Nat × Operand)} {z : Value} {zl l : List V} (ho : o.op = .build t parts) (ht : lk E.tab t = some ⟨td, tz, tb, tr⟩) (hd : td = .array len e) (hte : lk E.tab e = some ⟨ed, ez, eb, er⟩) (hz : tr = some z) (hzl : absL z.cells.toList = some zl)
    (hl : vfill (fun i => some (i * ez, ez)) s zl parts.toList = some l) : Yl ρ E k B s h o (.agg l) := fun U m a w r => by
  obtain ⟨cells', h1, h2⟩ := vfill_ok r (place := fun i => some (i * ez, ez)) parts.toList zl l z.cells hl (zero_pw hzl h.n)
  refine ⟨.agg cells', .agg (by simpa using h2.len) (fun j c v hc hv => h2.at_ j c v hc (by simpa using hv)), fun w' _ => ?_⟩
  have hu := und ht w'
  rw [hd] at hu
  have hf : Instr.fill (fun i => some (i * ez, ez)) z.cells (parts.map fun p => (p.1, a.eval p.2)).toList = some cells' := by simpa using h1
  simp only [execOp, ho, Instr.build, Sem.run_bind, zer ht hz, hu, Result.andThen_ok, szo hte w', hf, Sem.run_pure]
end
end Go.Proofs.Ytmgckodihnmjoaa
