/-
  The reference of layer 1: each of its functions hands back what the program's does. Conditions: a slice that is read lies in memory as the walk's word RdI says.
-/
import Derived.Test.YtmgckodihnmjoaaFix2
set_option linter.unusedVariables false
set_option linter.unusedSimpArgs false
namespace Go.Proofs.Ytmgckodihnmjoaa
open Go.RowKit

set_option maxHeartbeats 400000 in
theorem rone_any (x : Int) (w : World) :
    Calls Try.prog 101 #[.int .i64 x] w fun e w' => e = .returned (.bool (inB x)) ∧ w = w' := by
  go_enter Try.func101, Try.ntmps101
  go_wp2
  all_goals go_ret
  · refine ⟨ret_eq ?_, rfl⟩; show Value.bool (decide _) = _; simp [inB]; omega
  · refine ⟨ret_eq ?_, rfl⟩; rw [inB_f1 ‹_›]; rfl

set_option maxHeartbeats 400000 in
theorem rout_any (x : Int) (w : World) :
    Calls Try.prog 113 #[.int .i64 x] w fun e w' => e = .returned (.tuple #[.int .i64 (outR x), .int .i64 (outE x)]) ∧ w = w' := by
  cases h : inB x
  · go_enter Try.func113, Try.ntmps113
    go_wp2_with (go_at_call 101; refine (rone_any _ _).mono ?_; rintro e w' ⟨rfl, rfl⟩)
    go_ret2
    exact ⟨ret2 (outR_f h).symm (outE_f h).symm, rfl⟩
  · go_enter Try.func113, Try.ntmps113
    go_wp2_with (go_at_call 101; refine (rone_any _ _).mono ?_; rintro e w' ⟨rfl, rfl⟩)
    go_ret2
    exact ⟨ret2 (outR_t h).symm (outE_t h).symm, rfl⟩

def BeforeT (p : Int → Bool) (xs : List Int) (k : Nat) : Prop := ∀ i, i < k → p (nth xs i) = true
theorem beforeT_zero (p : Int → Bool) (xs : List Int) : BeforeT p xs 0 := fun i hi => by omega
theorem beforeT_succ {p : Int → Bool} {xs : List Int} {k : Nat} (h : BeforeT p xs k) (hk : p (nth xs k) = true) : BeforeT p xs (k + 1) := by
  intro i hi
  rcases Nat.lt_or_ge i k with h1 | h1
  · exact h i h1
  · obtain rfl : i = k := by omega
    exact hk
theorem all_of_before {p : Int → Bool} {xs : List Int} (h : BeforeT p xs xs.length) : xs.all p = true := by
  rw [List.all_eq_true]
  intro x hx
  obtain ⟨i, hi, rfl⟩ := List.getElem_of_mem hx
  rw [← nth_get _ _ hi]; exact h i hi
theorem all_of_miss {p : Int → Bool} {xs : List Int} {k : Nat} (hk : k < xs.length) (h : p (nth xs k) = false) : xs.all p = false := by
  rw [List.all_eq_false]
  exact ⟨_, nth_mem _ _ hk, by simp [h]⟩

set_option maxHeartbeats 400000 in
theorem rright_any (A : Option Addr) (c : Nat) (xs : List Int) (w : World) (h : RdI w A xs) :
    Calls Try.prog 46 #[.slice A xs.length c] w fun e w' => e = .returned (.bool (rightL xs)) ∧ w = w' := by
  obtain ⟨hlen, hr⟩ := h
  have HR := Lib.hid hr; clear hr
  go_enter Try.func46, Try.ntmps46
  go_wp2
  go_loop [3, 4] (fun i _ => ∃ k : Nat, k ≤ xs.length ∧ i = .int .i64 k ∧ BeforeT inB xs k) (fun i _ => xs.length - (intOf i).toNat)
  case atStart => exact ⟨0, by omega, rfl, beforeT_zero _ _⟩
  case round =>
    obtain ⟨k, hk, rfl, hn⟩ := hrel
    by_cases hlt : k < xs.length
    · obtain ⟨ad, rfl, hc⟩ := HR.out k hlt
      cases hp : inB (nth xs k)
      · have hm : Hid (rightL xs = false) := all_of_miss hlt hp
        go_wp2_with (go_at_call 101; refine (rone_any _ _).mono ?_; rintro e w' ⟨rfl, rfl⟩)
        go_ret
        exact ⟨ret_eq (by rw [hm.out]; rfl), rfl⟩
      · have hbs := beforeT_succ hn hp
        go_wp2_with (go_at_call 101; refine (rone_any _ _).mono ?_; rintro e w' ⟨rfl, rfl⟩)
        go_round
        case rel => exact ⟨k+1, by omega, by go_num, hbs⟩
        case measure => simp [intOf]; omega
    · obtain rfl : k = xs.length := by omega
      have hm : Hid (rightL xs = true) := all_of_before hn
      go_wp2
      go_ret
      exact ⟨ret_eq (by rw [hm.out]; rfl), rfl⟩

set_option maxHeartbeats 400000 in
theorem rof_any (n : Int) (w : World) :
    Calls Try.prog 15 #[.int .i64 n] w fun e w' => e = .returned (.tuple #[.int .i64 (ofR n), .int .i64 (ofE n)]) ∧ w = w' := by
  by_cases h1 : n < -32768
  · go_enter Try.func15, Try.ntmps15
    go_wp2
    go_ret2
    exact ⟨ret2 (by simp [ofR, outR, inB]; omega) (by simp [ofE, outE, inB]; omega), rfl⟩
  · by_cases h2 : 32767 < n
    · go_enter Try.func15, Try.ntmps15
      go_wp2
      go_ret2
      exact ⟨ret2 (by simp [ofR, outR, inB]; omega) (by simp [ofE, outE, inB]; omega), rfl⟩
    · go_enter Try.func15, Try.ntmps15
      go_wp2
      go_ret2
      exact ⟨ret2 (by simp [ofR, outR, inB]; omega) (by simp [ofE, outE, inB]; omega), rfl⟩

theorem tdiv_neg' {a : Int} (h : a < 0) : a.tdiv 65536 = -(-a / 65536) := by
  have : a = -(-a) := by omega
  rw [this, Int.neg_tdiv, Int.tdiv_eq_ediv_of_nonneg (by omega)]; simp
def absI (a : Int) : Int := if a < 0 then -a else a
def negB (a : Int) : Bool := decide (a < 0)
theorem absI_bd {a : Int} (h : -2147483648 ≤ a ∧ a ≤ 2147483647) : 0 ≤ absI a ∧ absI a ≤ 2147483648 := by unfold absI; split <;> omega
theorem ret_ib {k : IntKind} {a c : Int} {b d : Bool} (h : a = c) (h' : b = d) : Ending.returned (.tuple #[.int k a, .bool b]) = .returned (.tuple #[.int k c, .bool d]) := by rw [h, h']
set_option maxHeartbeats 400000 in
theorem magnitude_any (a : Int) (w : World) (h : -2147483648 ≤ a ∧ a ≤ 2147483647) :
    Calls Try.prog 117 #[.int .i64 a] w fun e w' => e = .returned (.tuple #[.int .i64 (absI a), .bool (negB a)]) ∧ w = w' := by
  obtain ⟨h1, h2⟩ := h
  go_enter Try.func117, Try.ntmps117
  go_wp2
  all_goals go_ret2
  · exact ⟨ret_ib (by unfold absI; rw [if_pos ‹_›]) (by unfold negB; rw [decide_eq_true ‹_›]), rfl⟩
  · exact ⟨ret_ib (by unfold absI; rw [if_neg (by omega)]) (by unfold negB; rw [decide_eq_false (by omega)]), rfl⟩

def flQ (q : Int) (rest below : Bool) : Int := if below then (if rest then -q - 1 else -q) else q
set_option maxHeartbeats 400000 in
theorem floored_any (q : Int) (rest below : Bool) (w : World) (h1 : 0 ≤ q) (h2 : q ≤ 140737488355328) :
    Calls Try.prog 118 #[.int .i64 q, .bool rest, .bool below] w fun e w' => e = .returned (.tuple #[.int .i64 (outR (flQ q rest below)), .int .i64 (outE (flQ q rest below))]) ∧ w = w' := by
  cases below
  · go_enter Try.func118, Try.ntmps118
    go_wp2_with (go_at_call 113; refine (rout_any _ _).mono ?_; rintro e w' ⟨rfl, rfl⟩)
    go_ret2
    exact ⟨rfl, rfl⟩
  · cases rest
    · go_enter Try.func118, Try.ntmps118
      go_wp2_with (go_at_call 113; refine (rout_any _ _).mono ?_; rintro e w' ⟨rfl, rfl⟩)
      go_ret2
      exact ⟨rfl, rfl⟩
    · go_enter Try.func118, Try.ntmps118
      go_wp2_with (go_at_call 113; refine (rout_any _ _).mono ?_; rintro e w' ⟨rfl, rfl⟩)
      go_ret2
      exact ⟨rfl, rfl⟩

/-- The product by halves of 16 places, floored, is the floor of the product. -/
theorem fl_pos (x y : Int) : x / 65536 * y + x % 65536 * y / 65536 = x * y / 65536 := by
  have h : x * y = x % 65536 * y + 65536 * (x / 65536 * y) := by
    have := Int.emod_add_mul_ediv x 65536
    calc x * y = (x % 65536 + 65536 * (x / 65536)) * y := by rw [this]
      _ = _ := by rw [Int.add_mul, Int.mul_assoc]
  rw [h, Int.add_mul_ediv_left _ _ (by decide)]
  omega
theorem fl_rest (x y : Int) : x % 65536 * y % 65536 = x * y % 65536 := by
  have h : x * y = x % 65536 * y + 65536 * (x / 65536 * y) := by
    have := Int.emod_add_mul_ediv x 65536
    calc x * y = (x % 65536 + 65536 * (x / 65536)) * y := by rw [this]
      _ = _ := by rw [Int.add_mul, Int.mul_assoc]
  rw [h, Int.add_mul_emod_self_left]
theorem fl_mul (a b : Int) : flQ (absI a / 65536 * absI b + absI a % 65536 * absI b / 65536) (absI a % 65536 * absI b % 65536 != 0) (negB a != negB b) = a * b / 65536 := by
  rw [fl_pos, fl_rest]
  have hs : absI a * absI b = if (negB a != negB b) = true then -(a * b) else a * b := by
    unfold absI negB
    by_cases ha : a < 0 <;> by_cases hb : b < 0 <;> simp [ha, hb, Int.neg_mul, Int.mul_neg]
  rw [hs]
  cases hn : (negB a != negB b)
  · simp [flQ]
  · simp only [flQ, if_true]
    split <;> rename_i h <;> simp at h <;> omega
theorem half_bd {x y : Int} (hx : 0 ≤ x ∧ x ≤ 2147483648) (hy : 0 ≤ y ∧ y ≤ 2147483648) : 0 ≤ x % 65536 * y ∧ x % 65536 * y ≤ 140737488355328 ∧ 0 ≤ x / 65536 * y ∧ x / 65536 * y ≤ 70368744177664 ∧ x / 65536 * y + x % 65536 * y / 65536 ≤ 140737488355328 := by
  have h1 : 0 ≤ x % 65536 * y := Int.mul_nonneg (by omega) hy.1
  have h2 : x % 65536 * y ≤ 65536 * 2147483648 := Int.mul_le_mul (by omega) hy.2 hy.1 (by omega)
  have h3 : 0 ≤ x / 65536 * y := Int.mul_nonneg (by omega) hy.1
  have h4 : x / 65536 * y ≤ 32768 * 2147483648 := Int.mul_le_mul (by omega) hy.2 hy.1 (by omega)
  omega

set_option maxHeartbeats 400000 in
theorem rmul_any (a b : Int) (w : World) :
    Calls Try.prog 88 #[.int .i64 a, .int .i64 b] w fun e w' => e = .returned (.tuple #[.int .i64 (mulR a b), .int .i64 (mulE a b)]) ∧ Ext w w' := by
  cases h : rightL [a, b]
  · go_enter Try.func88, Try.ntmps88
    go_wp2_with (go_at_call 46; refine (rright_any _ _ [a, b] _ (rdK_new2 _ _ _ _ _)).mono ?_; rintro e w' ⟨rfl, rfl⟩)
    go_ret2
    exact ⟨ret2 (by simp [mulR, h]) (by simp [mulE, h]), (Ext.refl _).alloc _⟩
  · have ha := Lib.hid (right2 h).1
    have hb := Lib.hid (right2 h).2
    obtain ⟨x1, x2⟩ := absI_bd ha.out
    obtain ⟨y1, y2⟩ := absI_bd hb.out
    obtain ⟨p1, p2, q1, q2, q3⟩ := half_bd ⟨x1, x2⟩ ⟨y1, y2⟩
    have hfl := Lib.hid (fl_mul a b)
    go_enter Try.func88, Try.ntmps88
    go_wp2_with (first | (go_at_call 46; refine (rright_any _ _ [a, b] _ (rdK_new2 _ _ _ _ _)).mono ?_; rintro e w' ⟨rfl, rfl⟩) | (go_at_call 117; refine (magnitude_any _ _ (by first | exact ha.out | exact hb.out)).mono ?_; rintro e w' ⟨rfl, rfl⟩) | (go_at_call 118; refine (floored_any _ _ _ _ (by omega) (by omega)).mono ?_; rintro e w' ⟨rfl, rfl⟩))
    go_ret2
    exact ⟨ret2 (by simp only [mulR, h, if_true]; rw [← hfl.out]; rfl) (by simp only [mulE, h, if_true]; rw [← hfl.out]; rfl), (Ext.refl _).alloc _⟩
/-- Digit by digit. -/
def dq (x y : Int) (k : Nat) : Int := x * 2 ^ k / y
def dr (x y : Int) (k : Nat) : Int := x * 2 ^ k % y
theorem d_step {x y : Int} (hy : 0 < y) (k : Nat) : (y ≤ 2 * dr x y k → dq x y (k + 1) = 2 * dq x y k + 1 ∧ dr x y (k + 1) = 2 * dr x y k - y) ∧ (2 * dr x y k < y → dq x y (k + 1) = 2 * dq x y k ∧ dr x y (k + 1) = 2 * dr x y k) := by
  have e : x * 2 ^ (k + 1) = 2 * dr x y k + y * (2 * dq x y k) := by
    have h := Int.emod_add_mul_ediv (x * 2 ^ k) y
    rw [Int.pow_succ, ← Int.mul_assoc]
    unfold dq dr
    have h2 : x * 2 ^ k * 2 = 2 * (x * 2 ^ k % y + y * (x * 2 ^ k / y)) := by rw [h, Int.mul_comm]
    rw [h2, Int.mul_add, ← Int.mul_assoc, Int.mul_comm 2 y, Int.mul_assoc]
  have h0 : 0 ≤ dr x y k := Int.emod_nonneg _ (by omega)
  have h1 : dr x y k < y := Int.emod_lt_of_pos _ hy
  constructor
  · intro h
    have e2 : x * 2 ^ (k + 1) = (2 * dr x y k - y) + y * (2 * dq x y k + 1) := by rw [e, Int.mul_add]; omega
    constructor
    · unfold dq at *; rw [e2, Int.add_mul_ediv_left _ _ (by omega), Int.ediv_eq_zero_of_lt (by omega) (by omega)]; omega
    · unfold dr at *; rw [e2, Int.add_mul_emod_self_left, Int.emod_eq_of_lt (by omega) (by omega)]
  · intro h
    constructor
    · unfold dq at *; rw [e, Int.add_mul_ediv_left _ _ (by omega), Int.ediv_eq_zero_of_lt (by omega) (by omega)]; omega
    · unfold dr at *; rw [e, Int.add_mul_emod_self_left, Int.emod_eq_of_lt (by omega) (by omega)]
theorem d_bd {x y : Int} (hx : 0 ≤ x ∧ x ≤ 2147483648) (hy : 0 < y) (k : Nat) (hk : k ≤ 16) : 0 ≤ dq x y k ∧ dq x y k ≤ 140737488355328 ∧ 0 ≤ dr x y k ∧ dr x y k < y := by
  have h2 : (2 : Int) ^ k ≤ 2 ^ 16 := by
    have : (2 : Nat) ^ k ≤ 2 ^ 16 := Nat.pow_le_pow_right (by decide) hk
    exact_mod_cast this
  have h0 : (0 : Int) ≤ 2 ^ k := Int.le_of_lt (Int.pow_pos (by decide))
  have h3 : 0 ≤ x * 2 ^ k := Int.mul_nonneg hx.1 h0
  have h4 : x * 2 ^ k ≤ 2147483648 * 2 ^ 16 := Int.mul_le_mul hx.2 h2 h0 (by decide)
  refine ⟨Int.ediv_nonneg h3 (by omega), ?_, Int.emod_nonneg _ (by omega), Int.emod_lt_of_pos _ hy⟩
  have : x * 2 ^ k / y ≤ x * 2 ^ k := Int.ediv_le_self _ h3
  unfold dq; omega
theorem d_zero (x y : Int) : dq x y 0 = x / y ∧ dr x y 0 = x % y := by simp [dq, dr]
theorem fdiv_below {n y : Int} (hy : 0 < y) : (-n).fdiv y = if n % y = 0 then -(n / y) else -(n / y) - 1 := by
  rw [Int.fdiv_eq_ediv_of_nonneg _ (by omega)]
  have h := Int.emod_add_mul_ediv n y
  have h0 := Int.emod_nonneg n (show y ≠ 0 by omega)
  have h1 := Int.emod_lt_of_pos n hy
  split
  · rename_i hz
    rw [show -n = 0 + y * (-(n / y)) by rw [Int.mul_neg]; omega, Int.add_mul_ediv_left _ _ (by omega)]; simp
  · rw [show -n = (y - n % y) + y * (-(n / y) - 1) by rw [Int.mul_sub, Int.mul_neg]; omega, Int.add_mul_ediv_left _ _ (by omega), Int.ediv_eq_zero_of_lt (by omega) (by omega)]; omega
theorem fl_div (a b : Int) (hb : b ≠ 0) : flQ (dq (absI a) (absI b) 16) (dr (absI a) (absI b) 16 != 0) (negB a != negB b) = divQ a b := by
  have hp : (2 : Int) ^ 16 = 65536 := by decide
  simp only [dq, dr, hp, divQ]
  unfold absI negB
  by_cases ha : a < 0 <;> by_cases hb' : b < 0 <;> simp only [ha, hb', if_true, if_false, decide_true, decide_false, flQ, bne_self_eq_false, Bool.false_eq_true, show (true != false) = true from rfl, show (false != true) = true from rfl]
  · rw [Int.neg_mul, ← Int.fdiv_eq_ediv_of_nonneg _ (show 0 ≤ -b by omega), Int.neg_fdiv_neg]
  · have := fdiv_below (n := -a * 65536) (y := b) (by omega)
    rw [show a * 65536 = -(-a * 65536) by omega, this]
    split <;> rename_i h <;> simp at h <;> simp [h]
  · have := fdiv_below (n := a * 65536) (y := -b) (by omega)
    rw [← Int.neg_fdiv_neg, this]
    split <;> rename_i h <;> simp only [bne_iff_ne, ne_eq] at h
    · rw [if_neg h]
    · rw [if_pos (by simpa using h)]
  · rw [Int.fdiv_eq_ediv_of_nonneg _ (by omega)]

set_option maxHeartbeats 400000 in
theorem radd_any (A : Option Addr) (c : Nat) (xs : List Int) (w : World) (h : RdI w A xs) :
    Calls Try.prog 83 #[.slice A xs.length c] w fun e w' => e = .returned (.tuple #[.int .i64 (addR xs), .int .i64 (addE xs)]) ∧ w = w' := by
  obtain ⟨hlen, hr⟩ := h
  have H := Lib.hid (show RdI w A xs from ⟨hlen, hr⟩); have HR := Lib.hid hr; clear hr
  cases hri : rightL xs
  · go_enter Try.func83, Try.ntmps83
    go_wp2_with (go_at_call 46; refine (rright_any _ _ _ _ H.out).mono ?_; rintro e w' ⟨rfl, rfl⟩)
    go_ret2
    exact ⟨ret2 (by simp [addR, addB, hri]) (by simp [addE, addB, hri]), rfl⟩
  · by_cases hl : xs.length ≤ 1024
    · have hl' : ¬ 1024 < xs.length := by omega
      have hR : Hid (addR xs = outR (sumTo xs xs.length)) := by show _ = _; simp [addR, addB, hri, hl]
      have hE : Hid (addE xs = outE (sumTo xs xs.length)) := by show _ = _; simp [addE, addB, hri, hl]
      have hb := Lib.hid (sumTo_bd hri)
      have hn := Lib.hid (rightL_nth hri)
      go_enter Try.func83, Try.ntmps83
      go_wp2_with (go_at_call 46; refine (rright_any _ _ _ _ H.out).mono ?_; rintro e w' ⟨rfl, rfl⟩)
      go_loop [5, 6] (fun s i => ∃ k : Nat, k ≤ xs.length ∧ i = .int .i64 k ∧ s = .int .i64 (sumTo xs k)) (fun _ i => xs.length - (intOf i).toNat)
      case atStart => exact ⟨0, by omega, rfl, rfl⟩
      case round =>
        obtain ⟨k, hk, rfl, rfl⟩ := hrel
        by_cases hlt : k < xs.length
        · obtain ⟨ad, rfl, hc⟩ := HR.out k hlt
          obtain ⟨hb1, hb2⟩ := hb.out k hk
          obtain ⟨hn1, hn2⟩ := hn.out k hlt
          go_wp2
          go_round
          case rel => exact ⟨k+1, by omega, by go_num, rfl⟩
          case measure => simp [intOf]; omega
        · obtain rfl : k = xs.length := by omega
          go_wp2_with (go_at_call 113; refine (rout_any _ _).mono ?_; rintro e w' ⟨rfl, rfl⟩)
          go_ret2
          exact ⟨ret2 hR.out.symm hE.out.symm, rfl⟩
    · have hl' : 1024 < xs.length := by omega
      go_enter Try.func83, Try.ntmps83
      go_wp2_with (go_at_call 46; refine (rright_any _ _ _ _ H.out).mono ?_; rintro e w' ⟨rfl, rfl⟩)
      go_ret2
      exact ⟨ret2 (by simp [addR, addB]; omega) (by simp [addE, addB]; omega), rfl⟩
end Go.Proofs.Ytmgckodihnmjoaa
