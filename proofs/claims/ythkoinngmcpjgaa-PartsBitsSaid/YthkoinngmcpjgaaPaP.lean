/-
  Sets of five kinds as numbers: bits. Conditions: none.
-/
import Derived.Test.YthkoinngmcpjgaaKD
set_option linter.unusedVariables false
set_option linter.unusedSimpArgs false
set_option maxRecDepth 20000
namespace Go.Proofs.Ythkoinngmcpjgaa
set_option maxRecDepth 100000
/-- The set of some of five kinds. -/
def setN (b0 b1 b2 b3 b4 : Bool) : Int := (bif b0 then 1 else 0) + (bif b1 then 2 else 0) + (bif b2 then 4 else 0) + (bif b3 then 8 else 0) + (bif b4 then 16 else 0)
theorem setN_b (b0 b1 b2 b3 b4 : Bool) : 0 ≤ setN b0 b1 b2 b3 b4 ∧ setN b0 b1 b2 b3 b4 < 32 := by
  cases b0 <;> cases b1 <;> cases b2 <;> cases b3 <;> cases b4 <;> decide
/-- Is a bit set? -/
def bitB (s : Int) (k : Nat) : Bool := decide (s / 2 ^ k % 2 = 1)
theorem low_set (s : Int) : s % 32 = setN (bitB s 0) (bitB s 1) (bitB s 2) (bitB s 3) (bitB s 4) := by
  have key : ∀ (p : Prop) [Decidable p] (a b : Int), (bif decide p then a else b) = if p then a else b := fun p _ a b => by by_cases h : p <;> simp [h]
  unfold setN bitB
  simp only [key]
  have e0 : (2 : Int) ^ 0 = 1 := rfl
  have e1 : (2 : Int) ^ 1 = 2 := rfl
  have e2 : (2 : Int) ^ 2 = 4 := rfl
  have e3 : (2 : Int) ^ 3 = 8 := rfl
  have e4 : (2 : Int) ^ 4 = 16 := rfl
  rw [e0, e1, e2, e3, e4]
  split <;> split <;> split <;> split <;> split <;> omega
theorem and_low {s m : Int} (h0 : 0 ≤ m) (h1 : m < 32) : andK .i64 s m = andK .i64 (s % 32) m := by
  rw [andK_eq, andK_eq]
  congr 1
  have e : BitVec.ofInt 64 s &&& BitVec.ofInt 64 m = BitVec.ofInt 64 (s % 32) &&& BitVec.ofInt 64 m := by
    apply BitVec.eq_of_toNat_eq
    rw [BitVec.toNat_and, BitVec.toNat_and, BitVec.toNat_ofInt, BitVec.toNat_ofInt, BitVec.toNat_ofInt]
    obtain ⟨k, hk⟩ : ∃ k : Nat, m = k := ⟨m.toNat, by omega⟩
    subst hk
    have hk32 : k < 32 := by omega
    have e1 : ((k : Int) % ((2 ^ 64 : Nat) : Int)).toNat = k := by omega
    rw [e1]
    apply Nat.eq_of_testBit_eq
    intro i
    rw [Nat.testBit_and, Nat.testBit_and]
    by_cases hi : i < 5
    · congr 1
      have a1 : (s % ((2 ^ 64 : Nat) : Int)).toNat % 2 ^ 5 = (s % 32 % ((2 ^ 64 : Nat) : Int)).toNat % 2 ^ 5 := by omega
      have b1 := Nat.testBit_mod_two_pow (s % ((2 ^ 64 : Nat) : Int)).toNat 5 i
      have b2 := Nat.testBit_mod_two_pow (s % 32 % ((2 ^ 64 : Nat) : Int)).toNat 5 i
      rw [a1] at b1
      rw [b1] at b2
      simpa [hi] using b2
    · have : k.testBit i = false := Nat.testBit_lt_two_pow (Nat.lt_of_lt_of_le hk32 (Nat.pow_le_pow_right (n := 2) (by decide) (by omega : 5 ≤ i)))
      rw [this, Bool.and_false, Bool.and_false]
  exact congrArg (fun x : BitVec 64 => (x.toNat : Int)) e
theorem and_set2 : ∀ b0 b1 b2 b3 b4 c0 c1 c2 c3 c4 : Bool, andK .i64 (setN b0 b1 b2 b3 b4) (setN c0 c1 c2 c3 c4) = setN (b0 && c0) (b1 && c1) (b2 && c2) (b3 && c3) (b4 && c4) := by decide +kernel
theorem or_set2 : ∀ b0 b1 b2 b3 b4 c0 c1 c2 c3 c4 : Bool, orK .i64 (setN b0 b1 b2 b3 b4) (setN c0 c1 c2 c3 c4) = setN (b0 || c0) (b1 || c1) (b2 || c2) (b3 || c3) (b4 || c4) := by decide +kernel
theorem not_set2 : ∀ b0 b1 b2 b3 b4 c0 c1 c2 c3 c4 : Bool, andNotK .i64 (setN b0 b1 b2 b3 b4) (setN c0 c1 c2 c3 c4) = setN (b0 && !c0) (b1 && !c1) (b2 && !c2) (b3 && !c3) (b4 && !c4) := by decide +kernel
theorem and_set (s : Int) (c0 c1 c2 c3 c4 : Bool) : andK .i64 s (setN c0 c1 c2 c3 c4) = setN (bitB s 0 && c0) (bitB s 1 && c1) (bitB s 2 && c2) (bitB s 3 && c3) (bitB s 4 && c4) := by
  rw [and_low (setN_b ..).1 (setN_b ..).2, low_set, and_set2]
theorem bits_of {s : Int} (h0 : 0 ≤ s) (h1 : s ≤ 31) : s = setN (bitB s 0) (bitB s 1) (bitB s 2) (bitB s 3) (bitB s 4) := by
  rw [← low_set]; omega
theorem bit_set : ∀ b0 b1 b2 b3 b4 : Bool, (bitB (setN b0 b1 b2 b3 b4) 0 = b0 ∧ bitB (setN b0 b1 b2 b3 b4) 1 = b1) ∧ (bitB (setN b0 b1 b2 b3 b4) 2 = b2 ∧ bitB (setN b0 b1 b2 b3 b4) 3 = b3) ∧ bitB (setN b0 b1 b2 b3 b4) 4 = b4 := by decide +kernel
theorem set_inj : ∀ b0 b1 b2 b3 b4 c0 c1 c2 c3 c4 : Bool, setN b0 b1 b2 b3 b4 = setN c0 c1 c2 c3 c4 ↔ (b0 = c0 ∧ b1 = c1 ∧ b2 = c2 ∧ b3 = c3 ∧ b4 = c4) := by decide +kernel
/-- One kind's bit. -/
theorem pow_set : ∀ k : _root_.Fin 5, (1 * 2 ^ ((k.val : Nat) : Int).toNat : Int) = setN (decide (k.val = 0)) (decide (k.val = 1)) (decide (k.val = 2)) (decide (k.val = 3)) (decide (k.val = 4)) := by decide +kernel
/-- A bit, by a shift. -/
theorem shift_bit (s : Int) (k : Nat) : andK .i64 (s / 2 ^ k) 1 = bif bitB s k then 1 else 0 := by
  have e : andK .i64 (s / 2 ^ k) (setN true false false false false) = _ := and_set _ _ _ _ _ _
  have e1 : setN true false false false false = 1 := rfl
  rw [e1] at e
  rw [e]
  have : bitB (s / 2 ^ k) 0 = bitB s k := by unfold bitB; simp
  rw [this]
  cases bitB s k <;> simp [setN]
end Go.Proofs.Ythkoinngmcpjgaa
