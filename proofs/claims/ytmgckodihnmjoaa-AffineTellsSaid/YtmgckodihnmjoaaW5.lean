/-
  Words for slices of structs of numbers, and for looking through them. Conditions: none.
-/
import Derived.Test.YtmgckodihnmjoaaW3
set_option linter.unusedVariables false
set_option linter.unusedSimpArgs false
namespace Go.Proofs.Ytmgckodihnmjoaa
open Go.RowKit

/-- A slice of structs of so many numbers that is read. -/
def RdM (m : Nat) (w : World) (A : Option Addr) (n : Nat) (f : Nat → Nat → Int) : Prop :=
  n ≤ 9223372036854775807 ∧ ∀ i, i < n → ∃ ad, A = some ad ∧ ∀ j, j < m → w.cell? (ad.add (i * m + j)) = some (.int .i64 (f i j))
theorem RdM.ext {m : Nat} {w w1 : World} {A : Option Addr} {n : Nat} {f : Nat → Nat → Int} (h : RdM m w A n f) (hb : Ext w w1) : RdM m w1 A n f :=
  ⟨h.1, fun i hi => by
    obtain ⟨ad, e, hc⟩ := h.2 i hi
    exact ⟨ad, e, fun j hj => hb.cell (hc j hj)⟩⟩
/-- An element's cells, as the walk spells their places. -/
theorem el_0 {w : World} {ad : Addr} {i : Nat} {v : Value} (h : w.cell? (ad.add (i + 0)) = some v) : w.cell? (ad.add i) = some v := h
theorem el_s {w : World} {ad : Addr} {i j : Nat} {v : Value} (h : w.cell? (ad.add (i + (j + 1))) = some v) : w.cell? ⟨(ad.add i).block, (ad.add i).off + (j + 1), none⟩ = some v := by
  have : (ad.add (i + (j + 1))) = ⟨(ad.add i).block, (ad.add i).off + (j + 1), none⟩ := by
    unfold Addr.add
    by_cases hi : i = 0
    · subst hi; simp
    · simp [hi, Nat.add_assoc]
  rwa [this] at h
theorem rdM_nil (m : Nat) (w : World) (A : Option Addr) (f : Nat → Nat → Int) : RdM m w A 0 f := ⟨by omega, fun i hi => by omega⟩

def idxN (q : Nat → Bool) (n : Nat) : Int := match (List.range n).find? q with | some i => (i : Int) | none => -1
def allN (q : Nat → Bool) (n : Nat) : Bool := (List.range n).all q
def NoneN (q : Nat → Bool) (k : Nat) : Prop := ∀ i, i < k → q i = false
def AllTo (q : Nat → Bool) (k : Nat) : Prop := ∀ i, i < k → q i = true
theorem noneN_zero (q : Nat → Bool) : NoneN q 0 := fun i hi => by omega
theorem allTo_zero (q : Nat → Bool) : AllTo q 0 := fun i hi => by omega
theorem noneN_succ {q : Nat → Bool} {k : Nat} (h : NoneN q k) (hk : q k = false) : NoneN q (k + 1) := by
  intro i hi
  rcases Nat.lt_or_ge i k with h1 | h1
  · exact h i h1
  · obtain rfl : i = k := by omega
    exact hk
theorem allTo_succ {q : Nat → Bool} {k : Nat} (h : AllTo q k) (hk : q k = true) : AllTo q (k + 1) := by
  intro i hi
  rcases Nat.lt_or_ge i k with h1 | h1
  · exact h i h1
  · obtain rfl : i = k := by omega
    exact hk
theorem find_range (q : Nat → Bool) (n k : Nat) (hk : k < n) (h0 : NoneN q k) (h : q k = true) : (List.range n).find? q = some k := by
  rw [List.find?_range_eq_some]
  exact ⟨h, by simpa using hk, fun j hj => by simpa using h0 j hj⟩
theorem idxN_hit (q : Nat → Bool) (n k : Nat) (hk : k < n) (h0 : NoneN q k) (h : q k = true) : idxN q n = k := by
  unfold idxN; rw [find_range q n k hk h0 h]
theorem idxN_miss (q : Nat → Bool) (n : Nat) (h0 : NoneN q n) : idxN q n = -1 := by
  have : (List.range n).find? q = none := by
    rw [List.find?_eq_none]
    intro i hi
    simp only [List.mem_range] at hi
    simp [h0 i hi]
  unfold idxN; rw [this]
theorem allN_iff (q : Nat → Bool) (n : Nat) : allN q n = true ↔ AllTo q n := by
  unfold allN AllTo; simp
theorem allN_true {q : Nat → Bool} {n : Nat} (h : AllTo q n) : allN q n = true := (allN_iff q n).2 h
theorem allN_false {q : Nat → Bool} {n k : Nat} (hk : k < n) (h : q k = false) : allN q n = false := by
  cases hq : allN q n
  · rfl
  · have := (allN_iff q n).1 hq k hk; rw [h] at this; cases this
theorem idx_all (q : Nat → Bool) (n : Nat) : decide (0 ≤ idxN (fun i => !q i) n) = !allN q n := by
  by_cases h : AllTo q n
  · rw [allN_true h, idxN_miss _ _ (fun i hi => by simp [h i hi])]; rfl
  · cases hf : (List.range n).find? (fun i => !q i) with
    | none =>
      exfalso; apply h
      rw [List.find?_eq_none] at hf
      intro i hi
      have := hf i (by simpa using hi)
      simpa using this
    | some k =>
      have h1 := List.find?_some hf
      have h2 := List.mem_of_find?_eq_some hf
      simp only [List.mem_range] at h2
      rw [allN_false h2 (by simpa using h1)]
      unfold idxN; rw [hf]; simp
/-- Of three errors the first one; the numbers, if there is none. -/
def e3 (a b c : Int) : Int := if a = 0 then (if b = 0 then c else b) else a
def r3 (a b c r : Int) : Int := if e3 a b c = 0 then r else 0
theorem e3_a {a : Int} (h : ¬ a = 0) (b c : Int) : e3 a b c = a := by simp [e3, h]
theorem e3_b {b : Int} (h : ¬ b = 0) (c : Int) : e3 0 b c = b := by simp [e3, h]
theorem e3_c (c : Int) : e3 0 0 c = c := by simp [e3]
theorem r3_no {a b c : Int} (h : ¬ e3 a b c = 0) (r : Int) : r3 a b c r = 0 := by simp [r3, h]
theorem r3_yes {a b c : Int} (h : e3 a b c = 0) (r : Int) : r3 a b c r = r := by simp [r3, h]
theorem Lies.three {w : World} {p : Nat} {a b c : Value} {t : Nat} (h : Lies w p #[a, b, c] t) : (w.cell? ⟨p, 0, none⟩ = some a ∧ w.frozen? ⟨p, 0, none⟩ = false) ∧ (w.cell? ⟨p, 1, none⟩ = some b ∧ w.frozen? ⟨p, 1, none⟩ = false) ∧ (w.cell? ⟨p, 2, none⟩ = some c ∧ w.frozen? ⟨p, 2, none⟩ = false) :=
  ⟨h.at_ 0 a rfl, h.at_ 1 b rfl, h.at_ 2 c rfl⟩
theorem Lies.other {w : World} {p : Nat} {cs : Array Value} {t : Nat} (h : Lies w p cs t) {k : Nat} (hk : k ≠ p) (i : Nat) (v : Value) : Lies (w.setCell ⟨k, i, none⟩ v) p cs t :=
  h.chg ((Chg.refl (fun i => i = k) w).set k i (.inl rfl) v) (fun h => hk h.symm)
end Go.Proofs.Ytmgckodihnmjoaa
