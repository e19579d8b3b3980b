/-
  The plain arithmetic of the sum: bits that are turned within 32 in a row are told. Conditions: none but that bytes are bytes.
-/
import Derived.Test.YtkepmkdnmmofmaaTurn
set_option linter.unusedVariables false
set_option linter.unusedSimpArgs false
namespace Go.Proofs.Ytkepmkdnmmofmaa
open Go.RowKit

/-! ### The sum over whole numbers: bytes as one number, the lowest first -/
theorem dn_zero {x : Nat} (hx : x < 4294967296) (h : dnN x = 0) : x = 0 := by
  unfold dnN at h
  split at h
  · have h2 : x / 2 ^^^ 3988292384 ^^^ 3988292384 = 0 ^^^ 3988292384 := by rw [h]
    rw [Nat.xor_assoc, Nat.xor_self, Nat.xor_zero, Nat.zero_xor] at h2
    omega
  · omega
theorem dn_xor (a b : Nat) : dnN (a ^^^ b) = dnN a ^^^ dnN b := by
  have h2 : (a ^^^ b) / 2 = a / 2 ^^^ b / 2 := by
    have := Nat.shiftRight_xor_distrib (a := a) (b := b) (i := 1)
    simpa [Nat.shiftRight_succ] using this
  have hm : (a ^^^ b) % 2 = (a % 2 + b % 2) % 2 := by
    have := Nat.xor_mod_two_pow (a := a) (b := b) (n := 1)
    rw [Nat.pow_one] at this
    rw [this]
    rcases Nat.mod_two_eq_zero_or_one a with ha | ha <;> rcases Nat.mod_two_eq_zero_or_one b with hb | hb <;> rw [ha, hb] <;> decide
  unfold dnN
  rw [h2]
  rcases Nat.mod_two_eq_zero_or_one a with ha | ha <;> rcases Nat.mod_two_eq_zero_or_one b with hb | hb <;> simp only [ha, hb] at hm <;> simp [ha, hb, hm]
  · rw [Nat.xor_assoc]
  · rw [Nat.xor_assoc, Nat.xor_assoc, Nat.xor_comm (b / 2)]
  · rw [Nat.xor_assoc (a / 2), Nat.xor_comm (b / 2) 3988292384, ← Nat.xor_assoc 3988292384, Nat.xor_self, Nat.zero_xor]
theorem it_xor (n a b : Nat) : itN n (a ^^^ b) = itN n a ^^^ itN n b := by
  induction n with
  | zero => rfl
  | succ n ih => simp only [itN, ih, dn_xor]
theorem it_zero (n : Nat) : itN n 0 = 0 := by
  induction n with
  | zero => rfl
  | succ n ih => simp only [itN, ih]; rfl
theorem it_add (n m a : Nat) : itN (n + m) a = itN n (itN m a) := by
  induction n with
  | zero => simp [itN]
  | succ n ih => rw [Nat.succ_add]; simp only [itN, ih]
theorem dn_double (a : Nat) : dnN (a * 2) = a := by
  unfold dnN; rw [if_neg (by omega)]; omega
theorem it_pow (n a : Nat) : itN n (a * 2 ^ n) = a := by
  induction n generalizing a with
  | zero => simp [itN]
  | succ n ih => rw [Nat.pow_succ, Nat.mul_comm (2 ^ n), ← Nat.mul_assoc]; simp only [itN]; rw [ih, dn_double]
theorem it_nonzero {x : Nat} (hx : x < 4294967296) (h0 : x ≠ 0) (n : Nat) : itN n x ≠ 0 := by
  induction n with
  | zero => exact h0
  | succ n ih => exact fun h => ih (dn_zero (it_lt n hx) h)

/-- The first k bytes as one number. -/
def leN (xs : List Int) : Nat → Nat
  | 0 => 0
  | k + 1 => leN xs k ^^^ ((nth xs k).toNat * 2 ^ (8 * k))
theorem crc_le (xs : List Int) (k : Nat) : crcTo xs k = itN (8 * k) (leN xs k ^^^ 4294967295) := by
  induction k with
  | zero => simp [crcTo, itN, leN]
  | succ k ih =>
    have e : leN xs (k + 1) ^^^ 4294967295 = (leN xs k ^^^ 4294967295) ^^^ ((nth xs k).toNat * 2 ^ (8 * k)) := by
      simp only [leN]; rw [Nat.xor_assoc, Nat.xor_assoc, Nat.xor_comm (_ * _)]
    rw [show 8 * (k + 1) = 8 + 8 * k by omega, it_add, e, it_xor, it_pow, ← ih]
    rfl
theorem leN_append (xs ys : List Int) : ∀ k, leN (xs ++ ys) (xs.length + k) = leN xs xs.length ^^^ (leN ys k * 2 ^ (8 * xs.length))
  | 0 => by
    simp only [Nat.add_zero, leN, Nat.zero_mul, Nat.xor_zero]
    have : ∀ k, k ≤ xs.length → leN (xs ++ ys) k = leN xs k := by
      intro k
      induction k with
      | zero => intro _; rfl
      | succ k ih =>
        intro hk
        simp only [leN]; rw [ih (by omega)]
        have : nth (xs ++ ys) k = nth xs k := by rw [nth_get _ _ (by simp; omega), nth_get _ _ (by omega), List.getElem_append_left (by omega)]
        rw [this]
    exact this _ (Nat.le_refl _)
  | k + 1 => by
    rw [← Nat.add_assoc]
    simp only [leN]
    rw [leN_append xs ys k]
    have h1 : nth (xs ++ ys) (xs.length + k) = nth ys k := by simp [nth, List.getElem?_append_right]
    rw [h1, Nat.xor_assoc]
    congr 1
    have h2 : ∀ a b n : Nat, (a ^^^ b) * 2 ^ n = a * 2 ^ n ^^^ b * 2 ^ n := fun a b n => by
      rw [← Nat.shiftLeft_eq, ← Nat.shiftLeft_eq, ← Nat.shiftLeft_eq, Nat.shiftLeft_xor_distrib]
    rw [h2, Nat.mul_assoc, ← Nat.pow_add, Nat.mul_add]
    congr 3
    omega
theorem xor_high {a n : Nat} (b : Nat) (h : a < 2 ^ n) : a ^^^ (b * 2 ^ n) = a + b * 2 ^ n := by
  have h1 : (a ^^^ (b * 2 ^ n)) % 2 ^ n = a := by
    rw [Nat.xor_mod_two_pow, Nat.mul_mod_left, Nat.xor_zero, Nat.mod_eq_of_lt h]
  have h2 : (a ^^^ (b * 2 ^ n)) / 2 ^ n = b := by
    have := Nat.shiftRight_xor_distrib (a := a) (b := b * 2 ^ n) (i := n)
    rw [Nat.shiftRight_eq_div_pow, Nat.shiftRight_eq_div_pow, Nat.shiftRight_eq_div_pow, Nat.div_eq_of_lt h, Nat.zero_xor, Nat.mul_div_cancel _ (Nat.two_pow_pos n)] at this
    exact this
  have h3 := Nat.div_add_mod (a ^^^ (b * 2 ^ n)) (2 ^ n)
  rw [h1, h2, Nat.mul_comm] at h3
  omega
/-- Sealed bytes, whatever they are, come to one and the same number. -/
theorem le_sum (x : Nat) (hx : x < 4294967296) : leN (leTo (x : Int) 4) 4 = x := by
  have hk : ∀ k, k < 4 → (nth (leTo (x : Int) 4) k).toNat = x / 2 ^ (8 * k) % 256 := by
    intro k hk
    have e : ∀ j, ((x : Int) / 2 ^ j % 256).toNat = x / 2 ^ j % 256 := fun j => by rw [cast_shift]; omega
    match k, hk with
    | 0, _ => exact e 0
    | 1, _ => exact e 8
    | 2, _ => exact e 16
    | 3, _ => exact e 24
  have hx0 : x = x % 256 ^^^ (x / 256 % 256 * 2 ^ 8) ^^^ (x / 65536 % 256 * 2 ^ 16) ^^^ (x / 16777216 % 256 * 2 ^ 24) := by
    rw [xor_high _ (show x % 256 < 2 ^ 8 by omega), xor_high _ (show x % 256 + x / 256 % 256 * 2 ^ 8 < 2 ^ 16 by omega), xor_high _ (show x % 256 + x / 256 % 256 * 2 ^ 8 + x / 65536 % 256 * 2 ^ 16 < 2 ^ 24 by omega)]
    omega
  simp only [leN, hk 0 (by decide), hk 1 (by decide), hk 2 (by decide), hk 3 (by decide)]
  simpa using hx0.symm
theorem sealed_rest {xs : List Int} (h : Bytes xs) : itN (8 * (xs.length + 4)) (leN (sealL xs) (xs.length + 4) ^^^ 4294967295) = itN 32 4294967295 := by
  have hb := crc_lt h xs.length
  have e1 : crcV xs = ((4294967295 ^^^ crcTo xs xs.length : Nat) : Int) := by
    rw [ones_xor hb]; unfold crcV; omega
  have e2 : leN (sealL xs) (xs.length + 4) = leN xs xs.length ^^^ ((4294967295 ^^^ crcTo xs xs.length) * 2 ^ (8 * xs.length)) := by
    unfold sealL
    rw [leN_append, e1, le_sum _ (xor_lt (by decide) hb)]
  have e3 : leN (sealL xs) (xs.length + 4) ^^^ 4294967295 = (leN xs xs.length ^^^ 4294967295) ^^^ ((4294967295 ^^^ crcTo xs xs.length) * 2 ^ (8 * xs.length)) := by
    rw [e2, Nat.xor_assoc, Nat.xor_assoc, Nat.xor_comm (_ * _)]
  rw [show 8 * (xs.length + 4) = 32 + 8 * xs.length by omega, it_add, e3, it_xor, it_pow, ← crc_le, Nat.xor_comm 4294967295, ← Nat.xor_assoc, Nat.xor_self, Nat.zero_xor]
/-- Of bytes that are turned, as one number. -/
def pT (xs : List Int) (at_ pat : Nat) : Nat → Nat
  | 0 => 0
  | i + 1 => if tuC xs at_ pat i then pT xs at_ pat i ^^^ 2 ^ i else pT xs at_ pat i
theorem pT_lt (xs : List Int) (at_ pat : Nat) : ∀ i, pT xs at_ pat i < 2 ^ i
  | 0 => by simp [pT]
  | i + 1 => by
    have := pT_lt xs at_ pat i
    have h2 : 2 ^ (i + 1) = 2 * 2 ^ i := by rw [Nat.pow_succ, Nat.mul_comm]
    simp only [pT]; split
    · exact Nat.xor_lt_two_pow (by omega) (by omega)
    · omega
theorem leN_set (xs : List Int) (j : Nat) (hj : j < xs.length) (b : Nat) (hx : 0 ≤ nth xs j) : ∀ k, j < k → leN (xs.set j (xorB (nth xs j) b)) k = leN xs k ^^^ (b * 2 ^ (8 * j)) := by
  have hlow : ∀ k, k ≤ j → leN (xs.set j (xorB (nth xs j) b)) k = leN xs k := by
    intro k
    induction k with
    | zero => intro _; rfl
    | succ k ih =>
      intro hk
      simp only [leN]; rw [ih (by omega)]
      have : nth (xs.set j (xorB (nth xs j) b)) k = nth xs k := by simp [nth, List.getElem?_set, show j ≠ k by omega]
      rw [this]
  intro k hk
  induction k with
  | zero => omega
  | succ k ih =>
    simp only [leN]
    by_cases h : j = k
    · subst h
      rw [hlow j (Nat.le_refl _)]
      have h1 : nth (xs.set j (xorB (nth xs j) b)) j = xorB (nth xs j) b := by simp [nth, List.getElem?_set, hj]
      have h2 : (xorB (nth xs j) b).toNat = (nth xs j).toNat ^^^ b := by simp [xorB]
      rw [h1, h2, ← Nat.shiftLeft_eq, Nat.shiftLeft_xor_distrib, Nat.shiftLeft_eq, Nat.shiftLeft_eq, Nat.xor_assoc]
    · rw [ih (by omega)]
      have : nth (xs.set j (xorB (nth xs j) b)) k = nth xs k := by simp [nth, List.getElem?_set, h]
      rw [this, Nat.xor_assoc, Nat.xor_assoc, Nat.xor_comm (b * _)]
theorem turn_le {xs : List Int} (hb : Bytes xs) (at_ pat : Nat) : ∀ i, leN (tuTo xs at_ pat i) xs.length = leN xs xs.length ^^^ (pT xs at_ pat i * 2 ^ at_)
  | 0 => by simp [tuTo, pT]
  | i + 1 => by
    have ih := turn_le hb at_ pat i
    simp only [tuTo, pT]
    cases hc : tuC xs at_ pat i
    · simpa using ih
    · simp only [if_true]
      simp only [tuC, Bool.and_eq_true, decide_eq_true_eq] at hc
      rw [leN_set _ _ (by rw [tuTo_length]; omega) _ ((tuTo_bytes hb at_ pat i).nth _).1 _ (by omega), ih]
      have h2 : 2 ^ ((at_ + i) % 8) * 2 ^ (8 * ((at_ + i) / 8)) = 2 ^ i * 2 ^ at_ := by
        rw [← Nat.pow_add, ← Nat.pow_add]; congr 1; omega
      rw [h2, Nat.xor_assoc, ← Nat.shiftLeft_eq, ← Nat.shiftLeft_eq, ← Nat.shiftLeft_xor_distrib, Nat.shiftLeft_eq]
theorem leN_inj {xs ys : List Int} (hx : Bytes xs) (hy : Bytes ys) : ∀ k, leN xs k = leN ys k → ∀ i, i < k → nth xs i = nth ys i
  | 0, _, i, hi => by omega
  | k + 1, h, i, hi => by
    have bd : ∀ (zs : List Int), Bytes zs → ∀ k, leN zs k < 2 ^ (8 * k) := by
      intro zs hz k
      induction k with
      | zero => simp [leN]
      | succ k ih =>
        have hn := hz.nth k
        simp only [leN]
        rw [xor_high _ ih, show 8 * (k + 1) = 8 + 8 * k by omega, Nat.pow_add]
        have : (nth zs k).toNat * 2 ^ (8 * k) ≤ 255 * 2 ^ (8 * k) := Nat.mul_le_mul_right _ (by omega)
        omega
    simp only [leN] at h
    rw [xor_high _ (bd xs hx k), xor_high _ (bd ys hy k)] at h
    have b1 := bd xs hx k
    have b2 := bd ys hy k
    have h1 : leN xs k = leN ys k := by
      have := congrArg (· % 2 ^ (8 * k)) h
      simpa [Nat.add_mul_mod_self_right, Nat.mod_eq_of_lt b1, Nat.mod_eq_of_lt b2] using this
    have h2 : (nth xs k).toNat = (nth ys k).toNat := by
      rw [h1] at h
      exact Nat.eq_of_mul_eq_mul_right (Nat.two_pow_pos (8 * k)) (by omega)
    rcases Nat.lt_or_ge i k with h3 | h3
    · exact leN_inj hx hy k h1 i h3
    · obtain rfl : i = k := by omega
      have := hx.nth i
      have := hy.nth i
      omega
/-- **Bits that are turned within 32 in a row are told.** -/
theorem bursts {xs : List Int} (hb : Bytes xs) (at_ pat : Nat) (hat : at_ ≤ 8 * (xs.length + 4)) (hne : tuTo (sealL xs) at_ pat 32 ≠ sealL xs) : openB (tuTo (sealL xs) at_ pat 32) = false := by
  have hsb := seal_bytes hb
  have hl : (tuTo (sealL xs) at_ pat 32).length = xs.length + 4 := by rw [tuTo_length, seal_length]
  cases h : openB (tuTo (sealL xs) at_ pat 32)
  · rfl
  exfalso
  unfold openB eqL at h
  have h := of_decide_eq_true h
  have hT : Bytes (openT (tuTo (sealL xs) at_ pat 32)) := (tuTo_bytes hsb at_ pat 32).take _
  have hTl : (openT (tuTo (sealL xs) at_ pat 32)).length = xs.length := by unfold openT; rw [List.length_take, hl]; omega
  have e1 := sealed_rest hT
  rw [h, hTl] at e1
  have e2 := sealed_rest hb
  have e3 := turn_le hsb at_ pat 32
  rw [seal_length] at e3
  rw [e3, Nat.xor_assoc, Nat.xor_comm (_ * _), ← Nat.xor_assoc, it_xor, e2] at e1
  have e4 : itN (8 * (xs.length + 4)) (pT (sealL xs) at_ pat 32 * 2 ^ at_) = 0 := by
    have := congrArg (itN 32 4294967295 ^^^ ·) e1
    simpa [← Nat.xor_assoc] using this
  rw [show 8 * (xs.length + 4) = (8 * (xs.length + 4) - at_) + at_ by omega, it_add, it_pow] at e4
  by_cases h0 : pT (sealL xs) at_ pat 32 = 0
  · rw [h0, Nat.zero_mul, Nat.xor_zero] at e3
    refine hne (List.ext_getElem (by rw [hl, seal_length]) fun i h1 h2 => ?_)
    have := leN_inj (tuTo_bytes hsb at_ pat 32) hsb _ e3 i (by omega)
    rwa [nth_get _ _ h1, nth_get _ _ h2] at this
  · exact it_nonzero (pT_lt (sealL xs) at_ pat 32) h0 _ e4
end Go.Proofs.Ytkepmkdnmmofmaa
