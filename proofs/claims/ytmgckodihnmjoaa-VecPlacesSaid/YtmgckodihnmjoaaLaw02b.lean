/-
  The law VecPlaces, walked; sums hang on no order, dots do neither. Conditions: none but that the slice lies in memory.
-/
import Derived.Test.YtmgckodihnmjoaaLaw02
import Derived.Test.YtmgckodihnmjoaaW6
set_option linter.unusedVariables false
set_option linter.unusedSimpArgs false
namespace Go.Proofs.Ytmgckodihnmjoaa
open Go.RowKit

def revF (f : Nat → Nat → Int) (n i j : Nat) : Int := f (n - 1 - i) j
theorem colL_map (f : Nat → Nat → Int) (k n : Nat) : colL f k n = (List.range n).map fun i => f i k := by
  induction n with
  | zero => rfl
  | succ n ih => simp [colL, ih, List.range_succ]
theorem colL_rev (f : Nat → Nat → Int) (k n : Nat) : colL (revF f n) k n = (colL f k n).reverse := by
  rw [colL_map, colL_map]
  apply List.ext_getElem
  · simp
  · intro i h1 h2
    simp [revF, List.getElem_reverse]
def sumI : List Int → Int
  | [] => 0
  | x :: xs => x + sumI xs
theorem sumI_append (xs ys : List Int) : sumI (xs ++ ys) = sumI xs + sumI ys := by
  induction xs with
  | nil => simp [sumI]
  | cons x xs ih => simp [sumI, ih]; omega
theorem sumI_reverse (xs : List Int) : sumI xs.reverse = sumI xs := by
  induction xs with
  | nil => rfl
  | cons x xs ih => rw [List.reverse_cons, sumI_append, ih]; simp [sumI]; omega
theorem sumTo_take (xs : List Int) (k : Nat) (h : k ≤ xs.length) : sumTo xs k = sumI (xs.take k) := by
  induction k with
  | zero => rfl
  | succ k ih =>
    rw [List.take_succ_eq_append_getElem (by omega), sumI_append, ← ih (by omega)]
    simp [sumTo, sumI, nth_get xs k (by omega)]
theorem sumTo_all (xs : List Int) : sumTo xs xs.length = sumI xs := by rw [sumTo_take xs _ (Nat.le_refl _), List.take_length]
theorem rightL_reverse (xs : List Int) : rightL xs.reverse = rightL xs := by simp [rightL]
theorem addE_reverse (xs : List Int) : addE xs.reverse = addE xs := by
  unfold addE addB
  rw [rightL_reverse, sumTo_all, sumTo_all, sumI_reverse, List.length_reverse]
theorem addR_reverse (xs : List Int) : addR xs.reverse = addR xs := by
  unfold addR addB
  rw [rightL_reverse, sumTo_all, sumTo_all, sumI_reverse, List.length_reverse]
theorem vecsB_rev (f : Nat → Nat → Int) (n : Nat) : vecsB (revF f n) n = vecsB f n := by
  unfold vecsB
  rw [Bool.eq_iff_iff, allN_iff, allN_iff]
  constructor
  · intro h i hi
    have := h (n - 1 - i) (by omega)
    unfold vecB revF at this
    rw [show n - 1 - (n - 1 - i) = i by omega] at this
    exact this
  · intro h i hi
    exact h (n - 1 - i) (by omega)
theorem addvE_rev (f : Nat → Nat → Int) (n : Nat) : addvE (revF f n) n = addvE f n := by
  unfold addvE; rw [vecsB_rev]; simp only [colL_rev, addE_reverse]
theorem addvR_rev (f : Nat → Nat → Int) (n k : Nat) : addvR (revF f n) n k = addvR f n k := by
  unfold addvR; rw [vecsB_rev]; simp only [colL_rev, addE_reverse, addR_reverse]
theorem rightL_comm (a b : Int) : rightL [a, b] = rightL [b, a] := by simp [rightL, Bool.and_comm]
theorem mulR_comm (a b : Int) : mulR a b = mulR b a := by unfold mulR; rw [rightL_comm, Int.mul_comm]
theorem mulE_comm (a b : Int) : mulE a b = mulE b a := by unfold mulE; rw [rightL_comm, Int.mul_comm]
theorem dotM_comm (x y z x' y' z' : Int) : dotM x y z x' y' z' = dotM x' y' z' x y z := by unfold dotM; rw [mulE_comm x, mulE_comm y, mulE_comm z]
theorem subvB_comm (x y z x' y' z' : Int) : subvB x y z x' y' z' = subvB x' y' z' x y z := by unfold subvB; rw [Bool.and_comm]
theorem dotE_comm (x y z x' y' z' : Int) : dotE x y z x' y' z' = dotE x' y' z' x y z := by unfold dotE; rw [dotM_comm, subvB_comm, mulR_comm x, mulR_comm y, mulR_comm z]
theorem dotR_comm (x y z x' y' z' : Int) : dotR x y z x' y' z' = dotR x' y' z' x y z := by unfold dotR; rw [dotM_comm, subvB_comm, mulR_comm x, mulR_comm y, mulR_comm z]
/-- Numbers of 32 bits. -/
def I32 (x : Int) : Prop := -2147483648 ≤ x ∧ x ≤ 2147483647
theorem mul_one_ {x : Int} (h : I32 x) : mulR x 65536 = x ∧ mulE x 65536 = 0 := by
  obtain ⟨h1, h2⟩ := h
  have hi : inB x = true := inB_t h1 h2
  have hr : rightL [x, 65536] = true := by simp [rightL, hi]; decide
  have e : x * 65536 / 65536 = x := by omega
  unfold mulR mulE
  rw [if_pos hr, if_pos hr, e, outR_t hi, outE_t hi]
  exact ⟨rfl, rfl⟩
theorem mul_zero_ {x : Int} (h : I32 x) : mulR x 0 = 0 ∧ mulE x 0 = 0 := by
  obtain ⟨h1, h2⟩ := h
  have hi : inB x = true := inB_t h1 h2
  have hr : rightL [x, 0] = true := by simp [rightL, hi]; decide
  unfold mulR mulE
  rw [if_pos hr, if_pos hr, Int.mul_zero]
  exact ⟨by decide, by decide⟩
theorem okV_32 {x y z : Int} (hx : I32 x) (hy : I32 y) (hz : I32 z) : okV x y z = true := by
  simp [okV, rightL, inB_t hx.1 hx.2, inB_t hy.1 hy.2, inB_t hz.1 hz.2]
theorem add_unit {a b c : Int} (ha : I32 a) (hb : I32 b) (hc : I32 c) (s : Int) (hs : a + b + c = s) (h : I32 s) : addR [a, b, c] = s ∧ addE [a, b, c] = 0 := by
  have hr : addB [a, b, c] = true := by simp [addB, rightL, inB_t ha.1 ha.2, inB_t hb.1 hb.2, inB_t hc.1 hc.2]
  have e : sumTo [a, b, c] 3 = s := by
    rw [← hs]; simp [sumTo, nth]
  unfold addR addE
  rw [if_pos hr, if_pos hr, show ([a, b, c] : List Int).length = 3 from rfl, e, outR_t (inB_t h.1 h.2), outE_t (inB_t h.1 h.2)]
  exact ⟨rfl, rfl⟩
theorem i32_0 : I32 0 := ⟨by decide, by decide⟩
theorem dot_0 {x y z : Int} (hx : I32 x) (hy : I32 y) (hz : I32 z) : dotR x y z 65536 0 0 = x ∧ dotE x y z 65536 0 0 = 0 := by
  have hv : subvB x y z 65536 0 0 = true := by unfold subvB; rw [okV_32 hx hy hz]; decide
  have hm : dotM x y z 65536 0 0 = 0 := by unfold dotM; rw [(mul_one_ hx).2, (mul_zero_ hy).2, (mul_zero_ hz).2]; rfl
  unfold dotR dotE
  rw [if_pos hv, if_pos hv, if_pos hm, if_pos hm, (mul_one_ hx).1, (mul_zero_ hy).1, (mul_zero_ hz).1]
  exact add_unit hx i32_0 i32_0 x (by omega) hx
theorem dot_1 {x y z : Int} (hx : I32 x) (hy : I32 y) (hz : I32 z) : dotR x y z 0 65536 0 = y ∧ dotE x y z 0 65536 0 = 0 := by
  have hv : subvB x y z 0 65536 0 = true := by unfold subvB; rw [okV_32 hx hy hz]; decide
  have hm : dotM x y z 0 65536 0 = 0 := by unfold dotM; rw [(mul_zero_ hx).2, (mul_one_ hy).2, (mul_zero_ hz).2]; rfl
  unfold dotR dotE
  rw [if_pos hv, if_pos hv, if_pos hm, if_pos hm, (mul_zero_ hx).1, (mul_one_ hy).1, (mul_zero_ hz).1]
  exact add_unit i32_0 hy i32_0 y (by omega) hy
theorem dot_2 {x y z : Int} (hx : I32 x) (hy : I32 y) (hz : I32 z) : dotR x y z 0 0 65536 = z ∧ dotE x y z 0 0 65536 = 0 := by
  have hv : subvB x y z 0 0 65536 = true := by unfold subvB; rw [okV_32 hx hy hz]; decide
  have hm : dotM x y z 0 0 65536 = 0 := by unfold dotM; rw [(mul_zero_ hx).2, (mul_zero_ hy).2, (mul_one_ hz).2]; rfl
  unfold dotR dotE
  rw [if_pos hv, if_pos hv, if_pos hm, if_pos hm, (mul_zero_ hx).1, (mul_zero_ hy).1, (mul_one_ hz).1]
  exact add_unit i32_0 i32_0 hz z (by omega) hz
end Go.Proofs.Ytmgckodihnmjoaa
