/-
  Small words that the walks of this seat share: worlds that only grow, slices of numbers that are read, the end of a call. Conditions: none.
-/
import Derived.WalkKit
import Derived.Lib.Hide
import Derived.WalkSpells
import Derived.Deep.QuietTactic
import Derived.BigQuiet
set_option linter.unusedVariables false
set_option linter.unusedSimpArgs false
namespace Go.Proofs.Ytmgckodihnmjoaa
open Go.RowKit

theorem ret_eq {a b : Value} (h : a = b) : Ending.returned a = .returned b := by rw [h]
theorem ret2 {k l : IntKind} {a b c d : Int} (h : a = c) (h' : b = d) : Ending.returned (.tuple #[.int k a, .int l b]) = .returned (.tuple #[.int k c, .int l d]) := by rw [h, h']

/-- Nothing that was there has turned; more may be there. -/
structure Ext (w w' : World) : Prop where mk :: (out : Below w.heap.size w w')
theorem Ext.refl (w : World) : Ext w w := ⟨Below.refl _ _⟩
theorem Ext.trans {a b c : World} (h : Ext a b) (k : Ext b c) : Ext a c := ⟨h.out.trans (k.out.mono h.out.size)⟩
theorem Ext.alloc {w w1 : World} (h : Ext w w1) (o : Obj) : Ext w (w1.alloc o) := ⟨h.out.alloc h.out.size o⟩
theorem Ext.drew {w w1 : World} (h : Ext w w1) : Ext w w1.drew := ⟨h.out.drew⟩
theorem Ext.drewN {w w1 : World} (h : Ext w w1) (n : Nat) : Ext w (w1.drewN n) := ⟨⟨h.out.os, h.out.tape, h.out.output, h.out.size, h.out.block⟩⟩
theorem Ext.set {w w1 : World} (h : Ext w w1) {p : Addr} (hp : w.heap.size ≤ p.block) (u : Value) : Ext w (w1.setCell p u) := ⟨h.out.setCell hp u⟩
theorem Ext.size {w w1 : World} (h : Ext w w1) : w.heap.size ≤ w1.heap.size := h.out.size
theorem Ext.cell {w w1 : World} (h : Ext w w1) {a : Addr} {v : Value} (hc : w.cell? a = some v) : w1.cell? a = some v :=
  (h.out.cell (World.block_lt_of_cell? w a hc)).trans hc

/-- The element at a place: a word that simp does not open. -/
def nth (xs : List Int) (k : Nat) : Int := xs.getD k 0
theorem nth_get (xs : List Int) (k : Nat) (h : k < xs.length) : nth xs k = xs[k] := by simp [nth, h]
theorem nth_mem (xs : List Int) (k : Nat) (h : k < xs.length) : nth xs k ∈ xs := by rw [nth_get _ _ h]; exact List.getElem_mem h

/-- A slice of whole numbers that is read. -/
def RdK (q : IntKind) (w : World) (A : Option Addr) (xs : List Int) : Prop :=
  xs.length ≤ 9223372036854775807 ∧ ∀ i, i < xs.length → ∃ ad, A = some ad ∧ w.cell? (ad.add i) = some (.int q (nth xs i))
abbrev RdI := RdK .i64
theorem RdK.ext {q : IntKind} {w w1 : World} {A : Option Addr} {xs : List Int} (h : RdK q w A xs) (hb : Ext w w1) : RdK q w1 A xs :=
  ⟨h.1, fun i hi => by
    obtain ⟨ad, e, hc⟩ := h.2 i hi
    exact ⟨ad, e, hb.cell hc⟩⟩
theorem cell_new (w : World) (cs : Array Value) (t : Nat) (i : Nat) : (w.alloc (.cells cs t)).cell? ((⟨w.heap.size, 0, none⟩ : Addr).add i) = cs[i]? := by
  have : ((⟨w.heap.size, 0, none⟩ : Addr).add i) = ⟨w.heap.size, i, none⟩ := by unfold Addr.add; split <;> simp_all
  rw [this]
  show (match (w.heap.push (Obj.cells cs t))[w.heap.size]? with | some (.cells c _ _) => _ | _ => _) = _
  rw [Array.getElem?_push_size]
  rfl
theorem cell_newF (w : World) (cs : Array Value) (t : Nat) (fr : Nat × Nat) (i : Nat) : (w.alloc (.cells cs t fr)).cell? ((⟨w.heap.size, 0, none⟩ : Addr).add i) = cs[i]? := by
  have : ((⟨w.heap.size, 0, none⟩ : Addr).add i) = ⟨w.heap.size, i, none⟩ := by unfold Addr.add; split <;> simp_all
  rw [this]
  show (match (w.heap.push (Obj.cells cs t fr))[w.heap.size]? with | some (.cells c _ _) => _ | _ => _) = _
  rw [Array.getElem?_push_size]
  rfl
/-- A literal that has just been made is read. -/
theorem rdK_lit (q : IntKind) (w : World) (xs : List Int) (t : Nat) (fr : Nat × Nat) (h : xs.length ≤ 9223372036854775807) (n : Nat) (hn : n = w.heap.size) : RdK q (w.alloc (.cells (xs.map (Value.int q)).toArray t fr)) (some ⟨n, 0, none⟩) xs := by
  subst hn
  refine ⟨h, fun i hi => ⟨_, rfl, ?_⟩⟩
  rw [cell_newF, List.getElem?_toArray, List.getElem?_map, List.getElem?_eq_getElem hi, nth_get _ _ hi]; rfl
theorem rdK_new2 (q : IntKind) (w : World) (a b : Int) (t : Nat) : RdK q (w.alloc (.cells #[.int q a, .int q b] t)) (some ⟨w.heap.size, 0, none⟩) [a, b] := by
  refine ⟨by simp, fun i hi => ⟨_, rfl, ?_⟩⟩
  rw [cell_new]
  match i, hi with
  | 0, _ => rfl
  | 1, _ => rfl
theorem rdK_new1 (q : IntKind) (w : World) (a : Int) (t : Nat) : RdK q (w.alloc (.cells #[.int q a] t)) (some ⟨w.heap.size, 0, none⟩) [a] := by
  refine ⟨by simp, fun i hi => ⟨_, rfl, ?_⟩⟩
  rw [cell_new]
  match i, hi with
  | 0, _ => rfl

def idxOf (p : Int → Bool) (xs : List Int) : Int :=
  match xs.findIdx? p with | some i => i | none => -1
def Before (p : Int → Bool) (xs : List Int) (k : Nat) : Prop := ∀ i, i < k → p (nth xs i) = false
theorem idxOf_hit (p : Int → Bool) (xs : List Int) (k : Nat) (hk : k < xs.length) (h0 : Before p xs k) (h : p (nth xs k) = true) : idxOf p xs = k := by
  have : xs.findIdx? p = some k := by
    rw [List.findIdx?_eq_some_iff_getElem]
    refine ⟨hk, by rwa [nth_get _ _ hk] at h, fun j hj => ?_⟩
    have := h0 j hj
    rw [nth_get _ _ (by omega)] at this
    simp [this]
  simp [idxOf, this]
theorem idxOf_miss (p : Int → Bool) (xs : List Int) (h0 : Before p xs xs.length) : idxOf p xs = -1 := by
  have : xs.findIdx? p = none := by
    rw [List.findIdx?_eq_none_iff]
    intro x hx
    obtain ⟨i, hi, rfl⟩ := List.getElem_of_mem hx
    have := h0 i hi
    rwa [nth_get _ _ hi] at this
  simp [idxOf, this]
theorem before_zero (p : Int → Bool) (xs : List Int) : Before p xs 0 := fun i hi => by omega
theorem before_succ {p : Int → Bool} {xs : List Int} {k : Nat} (h : Before p xs k) (hk : p (nth xs k) = false) : Before p xs (k + 1) := by
  intro i hi
  rcases Nat.lt_or_ge i k with h1 | h1
  · exact h i h1
  · obtain rfl : i = k := by omega
    exact hk
theorem any_of_idx (p : Int → Bool) (xs : List Int) : decide (0 ≤ idxOf p xs) = xs.any p := by
  unfold idxOf
  cases h : xs.findIdx? p with
  | none =>
    rw [List.findIdx?_eq_none_iff] at h
    have : xs.any p = false := by simp only [List.any_eq_false]; intro x hx; simpa using h x hx
    simp [this]
  | some i =>
    rw [List.findIdx?_eq_some_iff_getElem] at h
    obtain ⟨hi, h1, _⟩ := h
    have : xs.any p = true := by
      simp only [List.any_eq_true]; exact ⟨xs[i], List.getElem_mem hi, by simpa using h1⟩
    simp [this]
/-- Sums from the left. -/
def sumTo (xs : List Int) : Nat → Int
  | 0 => 0
  | k + 1 => sumTo xs k + nth xs k
/-- What the frame tells of a slice of integers that came in, in the walk's words. -/
theorem rdK_row {q : IntKind} {w : World} {a : Option Addr} {len cap : Nat} {zs : List Int} (h : (a = none ∧ len = 0 ∧ cap = 0 ∧ zs = []) ∨
    ∃ x, a = some x ∧ len ≤ cap ∧ cap ≤ maxLen ∧ zs.length = cap ∧ (∀ i, i < zs.length → w.cell? (x.add i) = some (.int q (zs.getD i 0))) ∧ ∀ n ∈ zs, (Lit.int q n).wf = true) :
    ∃ xs : List Int, len = xs.length ∧ RdK q w a xs ∧ ∀ n ∈ xs, (Lit.int q n).wf = true := by
  rcases h with ⟨rfl, rfl, rfl, rfl⟩ | ⟨x, rfl, hl, hm, hz, hc, hw⟩
  · exact ⟨[], rfl, ⟨by simp, fun i hi => by simp at hi⟩, fun n hn => by simp at hn⟩
  · have hlen : (zs.take len).length = len := by rw [List.length_take]; omega
    refine ⟨zs.take len, hlen.symm, ⟨by rw [hlen]; unfold maxLen at hm; omega, fun i hi => ⟨x, rfl, ?_⟩⟩, fun n hn => hw n (List.mem_of_mem_take hn)⟩
    rw [hlen] at hi
    rw [hc i (by omega)]
    simp [nth, List.getElem?_take, hi]
theorem row_cap {q : IntKind} {w : World} {a : Option Addr} {len cap : Nat} {zs : List Int} (h : (a = none ∧ len = 0 ∧ cap = 0 ∧ zs = []) ∨
    ∃ x, a = some x ∧ len ≤ cap ∧ cap ≤ maxLen ∧ zs.length = cap ∧ (∀ i, i < zs.length → w.cell? (x.add i) = some (.int q (zs.getD i 0))) ∧ ∀ n ∈ zs, (Lit.int q n).wf = true) : len ≤ cap := by
  rcases h with ⟨_, rfl, rfl, _⟩ | ⟨x, _, hl, _⟩
  · exact Nat.le_refl _
  · exact hl
end Go.Proofs.Ytmgckodihnmjoaa
