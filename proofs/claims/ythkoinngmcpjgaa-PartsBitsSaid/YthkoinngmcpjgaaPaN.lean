/-
  Parts with kinds of others, and without them again: what may be. Conditions: none.
-/
import Derived.Test.YthkoinngmcpjgaaPaK
set_option linter.unusedVariables false
set_option linter.unusedSimpArgs false
set_option maxRecDepth 20000
namespace Go.Proofs.Ythkoinngmcpjgaa
open Oc
set_option maxRecDepth 100000
/-- A group of fields is naught. -/
def z0 (p : Nat → Int) : Bool := allB [decide (0 = p 1), decide (0 = p 2), decide (0 = p 3), decide (0 = p 4), decide (0 = p 5), decide (0 = p 6), decide (0 = p 7), decide (0 = p 8), decide (0 = p 9), decide (0 = p 10), decide (0 = p 11), decide (0 = p 12)]
def z1 (p : Nat → Int) : Bool := allB [decide (0 = p 13), decide (0 = p 14), decide (0 = p 15), decide (0 = p 16), decide (0 = p 17), decide (0 = p 18), decide (0 = p 19)]
def z2 (p : Nat → Int) (c : Bool) : Bool := allB [decide (0 = p 20), decide (0 = p 21), decide (false = c)]
def z3 (p : Nat → Int) : Bool := allB [decide (0 = p 22)]
theorem eqL_z (p : Nat → Int) (c : Bool) : eqL true false false false p c = z0 p ∧ eqL false true false false p c = z1 p ∧ eqL false false true false p c = z2 p c ∧ eqL false false false true p c = z3 p := by
  refine ⟨?_, ?_, ?_, ?_⟩
  · simp [eqL, allB, z0]
  · simp [eqL, allB, z1]
  · simp [eqL, allB, z2]
  · simp [eqL, allB, z3]
/-- May parts be: in groups. -/
theorem parR_iff {p : Nat → Int} {c : Bool} : parR p c = true ↔ upB (p 0) 31 = true ∧ ((bitB (p 0) 0 = true ∨ z0 p = true) ∧ (bitB (p 0) 1 = true ∨ z1 p = true) ∧ (bitB (p 0) 2 = true ∨ z2 p c = true) ∧ (bitB (p 0) 3 = true ∨ z3 p = true)) ∧ rstP p = true := by
  unfold parR
  rw [eqL_all]
  obtain ⟨e0, e1, e2, e3⟩ := eqL_z p c
  rw [e0, e1, e2, e3]
  simp only [Bool.and_eq_true, Bool.or_eq_true]
def gr (h0 h1 h2 h3 : Bool) (i : Nat) : Bool := bif Nat.ble i 12 then h0 else bif Nat.ble i 19 then h1 else bif Nat.ble i 21 then h2 else h3
/-- Some groups of others, and another set. -/
def mx (s : Int) (h0 h1 h2 h3 : Bool) (p q : Nat → Int) (i : Nat) : Int := bif Nat.beq i 0 then s else bif gr h0 h1 h2 h3 i then q i else p i
theorem mx_rst {s : Int} {h0 h1 h2 h3 : Bool} {p q : Nat → Int} (hp : rstP p = true) (hq : rstP q = true) : rstP (mx s h0 h1 h2 h3 p q) = true := by
  unfold rstP at hp hq
  simp only [Bool.and_eq_true] at hp hq
  obtain ⟨p0, p1, p2, p3, p4, p5⟩ := hp
  obtain ⟨q0, q1, q2, q3, q4, q5⟩ := hq
  unfold rstP
  simp only [Bool.and_eq_true]
  refine ⟨?_, ?_, ?_, ?_, ?_, ?_⟩
  · cases h0
    · exact p0
    · exact q0
  · cases h1
    · exact p1
    · exact q1
  · cases h1
    · exact p2
    · exact q2
  · cases h2
    · exact p3
    · exact q3
  · cases h2
    · exact p4
    · exact q4
  · cases h3
    · exact p5
    · exact q5
theorem mx_z {s : Int} {h0 h1 h2 h3 : Bool} {p q : Nat → Int} {c d : Bool} :
    z0 (mx s h0 h1 h2 h3 p q) = (bif h0 then z0 q else z0 p) ∧ z1 (mx s h0 h1 h2 h3 p q) = (bif h1 then z1 q else z1 p) ∧ z2 (mx s h0 h1 h2 h3 p q) (bif h2 then d else c) = (bif h2 then z2 q d else z2 p c) ∧ z3 (mx s h0 h1 h2 h3 p q) = (bif h3 then z3 q else z3 p) := by
  refine ⟨?_, ?_, ?_, ?_⟩
  · cases h0 <;> rfl
  · cases h1 <;> rfl
  · cases h2 <;> rfl
  · cases h3 <;> rfl
theorem set_up (b0 b1 b2 b3 b4 : Bool) : upB (setN b0 b1 b2 b3 b4) 31 = true := by
  cases b0 <;> cases b1 <;> cases b2 <;> cases b3 <;> cases b4 <;> rfl
/-- Parts with kinds of others may be. -/
theorem wi_par {p q : Nat → Int} {c d : Bool} {l : Nat → Int} {n : Nat} (hp : parR p c = true) (hq : parR q d = true) : parR (mx (orK .i64 (p 0) (setK l n)) (hasK l n 0) (hasK l n 1) (hasK l n 2) (hasK l n 3) p q) (bif hasK l n 2 then d else c) = true := by
  have up := par_up hp
  obtain ⟨_, ⟨p0, p1, p2, p3⟩, pr⟩ := parR_iff.1 hp
  obtain ⟨_, _, qr⟩ := parR_iff.1 hq
  rw [parR_iff]
  obtain ⟨e0, e1, e2, e3⟩ := mx_z (s := orK .i64 (p 0) (setK l n)) (h0 := hasK l n 0) (h1 := hasK l n 1) (h2 := hasK l n 2) (h3 := hasK l n 3) (p := p) (q := q) (c := c) (d := d)
  rw [e0, e1, e2, e3]
  show upB (orK .i64 (p 0) (setK l n)) 31 = true ∧ ((bitB (orK .i64 (p 0) (setK l n)) 0 = true ∨ _) ∧ (bitB (orK .i64 (p 0) (setK l n)) 1 = true ∨ _) ∧ (bitB (orK .i64 (p 0) (setK l n)) 2 = true ∨ _) ∧ (bitB (orK .i64 (p 0) (setK l n)) 3 = true ∨ _)) ∧ _
  rw [or_bits up l n]
  obtain ⟨⟨b0, b1⟩, ⟨b2, b3⟩, _⟩ := bit_set (bitB (p 0) 0 || hasK l n 0) (bitB (p 0) 1 || hasK l n 1) (bitB (p 0) 2 || hasK l n 2) (bitB (p 0) 3 || hasK l n 3) (bitB (p 0) 4 || hasK l n 4)
  rw [b0, b1, b2, b3]
  have one : ∀ a h zp zq : Bool, (a = true ∨ zp = true) → ((a || h) = true ∨ (bif h then zq else zp) = true) := by decide
  exact ⟨set_up .., ⟨one _ _ _ _ p0, one _ _ _ _ p1, one _ _ _ _ p2, one _ _ _ _ p3⟩, mx_rst pr qr⟩
theorem rst_0 : rstP (fun _ => 0) = true := by decide
/-- Parts without kinds may be. -/
theorem wo_par {p : Nat → Int} {c : Bool} {l : Nat → Int} {n : Nat} (hp : parR p c = true) : parR (mx (andNotK .i64 (p 0) (setK l n)) (hasK l n 0) (hasK l n 1) (hasK l n 2) (hasK l n 3) p fun _ => 0) (bif hasK l n 2 then false else c) = true := by
  have up := par_up hp
  obtain ⟨_, ⟨p0, p1, p2, p3⟩, pr⟩ := parR_iff.1 hp
  rw [parR_iff]
  obtain ⟨e0, e1, e2, e3⟩ := mx_z (s := andNotK .i64 (p 0) (setK l n)) (h0 := hasK l n 0) (h1 := hasK l n 1) (h2 := hasK l n 2) (h3 := hasK l n 3) (p := p) (q := fun _ => 0) (c := c) (d := false)
  rw [e0, e1, e2, e3]
  show upB (andNotK .i64 (p 0) (setK l n)) 31 = true ∧ ((bitB (andNotK .i64 (p 0) (setK l n)) 0 = true ∨ _) ∧ (bitB (andNotK .i64 (p 0) (setK l n)) 1 = true ∨ _) ∧ (bitB (andNotK .i64 (p 0) (setK l n)) 2 = true ∨ _) ∧ (bitB (andNotK .i64 (p 0) (setK l n)) 3 = true ∨ _)) ∧ _
  rw [not_bitsK up l n]
  obtain ⟨⟨b0, b1⟩, ⟨b2, b3⟩, _⟩ := bit_set (bitB (p 0) 0 && !hasK l n 0) (bitB (p 0) 1 && !hasK l n 1) (bitB (p 0) 2 && !hasK l n 2) (bitB (p 0) 3 && !hasK l n 3) (bitB (p 0) 4 && !hasK l n 4)
  rw [b0, b1, b2, b3]
  have one : ∀ a h zp : Bool, (a = true ∨ zp = true) → ((a && !h) = true ∨ (bif h then true else zp) = true) := by decide
  exact ⟨set_up .., ⟨one _ _ _ p0, one _ _ _ p1, one _ _ _ p2, one _ _ _ p3⟩, mx_rst pr rst_0⟩
/-- A row the other way round. -/
def bk (l : Nat → Int) (n : Nat) (i : Nat) : Int := l (n - 1 - i)
theorem hasK_bk (l : Nat → Int) (n : Nat) (j : Int) : hasK (bk l n) n j = hasK l n j := by
  rw [Bool.eq_iff_iff, hasK_iff, hasK_iff]
  constructor
  · rintro ⟨i, hi, h⟩; exact ⟨n - 1 - i, by omega, h⟩
  · rintro ⟨i, hi, h⟩; exact ⟨n - 1 - i, by omega, by show l (n - 1 - (n - 1 - i)) = j; rw [show n - 1 - (n - 1 - i) = i by omega]; exact h⟩
theorem setK_bk (l : Nat → Int) (n : Nat) : setK (bk l n) n = setK l n := by
  unfold setK; rw [hasK_bk, hasK_bk, hasK_bk, hasK_bk, hasK_bk]
theorem allN_bk {f g : Nat → Bool} {n : Nat} (h : ∀ i, i < n → f i = g (n - 1 - i)) : allN n f = allN n g := by
  rw [Bool.eq_iff_iff, allN_iff, allN_iff]
  constructor
  · intro a i hi
    have := a (n - 1 - i) (by omega)
    rw [h _ (by omega), show n - 1 - (n - 1 - i) = i by omega] at this; exact this
  · intro a i hi; rw [h i hi]; exact a _ (by omega)
theorem th_bk (l : Nat → Int) (n : Nat) : allN n (thI (bk l n)) = allN n (thI l) := allN_bk fun i _ => rfl
theorem of_bk (l : Nat → Int) (n : Nat) : ofV (bk l n) n = ofV l n ∧ ofE (bk l n) n = ofE l n := by
  unfold ofV ofE; rw [th_bk, setK_bk]; exact ⟨rfl, rfl⟩
/-- None of the kinds is in the set. -/
def noK (s : Int) (l : Nat → Int) (n k : Nat) : Bool := match k with | 0 => true | k + 1 => bif hsB s (l (n - 1 - k)) then false else noK s l n k
theorem noK_iff {s : Int} {l : Nat → Int} {n k : Nat} (hk : k ≤ n) : noK s l n k = true ↔ ∀ i, n - k ≤ i → i < n → hsB s (l i) = false := by
  induction k with
  | zero => simp only [noK, true_iff]; intro i h1 h2; omega
  | succ k ih =>
    unfold noK
    cases hb : hsB s (l (n - 1 - k))
    · rw [cond_false, ih (by omega)]
      constructor
      · intro h i h1 h2
        rcases Nat.lt_or_ge i (n - k) with h3 | h3
        · rw [show i = n - 1 - k by omega]; exact hb
        · exact h i h3 h2
      · intro h i h1 h2; exact h i (by omega) h2
    · constructor
      · intro h; cases h
      · intro h; rw [h _ (by omega) (by omega)] at hb; cases hb
theorem no_bit {s : Int} {l : Nat → Int} {n : Nat} (h : noK s l n n = true) (j : _root_.Fin 5) (hj : hasK l n (j.val : Int) = true) : bitB s j.val = false := by
  obtain ⟨i, hi, e⟩ := hasK_iff.1 hj
  have := (noK_iff (Nat.le_refl n)).1 h i (by omega) hi
  rw [e, hs_fin] at this; exact this
/-- With kinds, and without them, when there were none of them: what it was. -/
theorem back_set {s : Int} (up : 0 ≤ s ∧ s ≤ 31) {l : Nat → Int} {n : Nat} (h : noK s l n n = true) : andNotK .i64 (orK .i64 s (setK l n)) (setK l n) = s := by
  have dis : ∀ a b : Bool, (b = true → a = false) → ((a || b) && !b) = a := by decide
  have e := or_bits up l n
  have n2 := not_set2 (bitB s 0 || hasK l n 0) (bitB s 1 || hasK l n 1) (bitB s 2 || hasK l n 2) (bitB s 3 || hasK l n 3) (bitB s 4 || hasK l n 4) (hasK l n 0) (hasK l n 1) (hasK l n 2) (hasK l n 3) (hasK l n 4)
  rw [← e] at n2
  rw [dis _ _ fun h' => no_bit h ⟨0, by decide⟩ h', dis _ _ fun h' => no_bit h ⟨1, by decide⟩ h', dis _ _ fun h' => no_bit h ⟨2, by decide⟩ h', dis _ _ fun h' => no_bit h ⟨3, by decide⟩ h', dis _ _ fun h' => no_bit h ⟨4, by decide⟩ h', ← bits_of up.1 up.2] at n2
  exact n2
/-- The fields, too. -/
theorem back_z {p : Nat → Int} {c : Bool} {l : Nat → Int} {n : Nat} (hp : parR p c = true) (h : noK (p 0) l n n = true) : (hasK l n 0 = true → z0 p = true) ∧ (hasK l n 1 = true → z1 p = true) ∧ (hasK l n 2 = true → z2 p c = true) ∧ (hasK l n 3 = true → z3 p = true) := by
  obtain ⟨_, ⟨p0, p1, p2, p3⟩, _⟩ := parR_iff.1 hp
  refine ⟨fun h' => ?_, fun h' => ?_, fun h' => ?_, fun h' => ?_⟩
  · rcases p0 with q | q
    · rw [no_bit h ⟨0, by decide⟩ h'] at q; cases q
    · exact q
  · rcases p1 with q | q
    · rw [no_bit h ⟨1, by decide⟩ h'] at q; cases q
    · exact q
  · rcases p2 with q | q
    · rw [no_bit h ⟨2, by decide⟩ h'] at q; cases q
    · exact q
  · rcases p3 with q | q
    · rw [no_bit h ⟨3, by decide⟩ h'] at q; cases q
    · exact q
end Go.Proofs.Ythkoinngmcpjgaa
