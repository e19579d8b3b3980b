/-
  The package fix, the rest: sums, quotients, whole numbers, a number turned about. Conditions: a slice that is read lies in memory as the walk's word RdI says.
-/
import Derived.Test.YtmgckodihnmjoaaFix
set_option linter.unusedVariables false
set_option linter.unusedSimpArgs false
namespace Go.Proofs.Ytmgckodihnmjoaa
open Go.RowKit

def ofR (n : Int) : Int := if inB n then outR (n * 65536) else 0
def ofE (n : Int) : Int := if inB n then outE (n * 65536) else 6
set_option maxHeartbeats 400000 in
theorem of_any (n : Int) (w : World) :
    Calls Try.prog 77 #[.int .i64 n] w fun e w' => e = .returned (.tuple #[.int .i64 (ofR n), .int .i64 (ofE n)]) ∧ w = w' := by
  cases h : inB n
  · go_enter Try.func77, Try.ntmps77
    go_wp2_with (go_at_call 111; refine (in_any _ _).mono ?_; rintro e w' ⟨rfl, rfl⟩)
    go_ret2
    exact ⟨ret2 (by simp [ofR, h]) (by simp [ofE, h]), rfl⟩
  · obtain ⟨h1, h2⟩ := (inB_iff n).1 h
    go_enter Try.func77, Try.ntmps77
    go_wp2_with (first | (go_at_call 111; refine (in_any _ _).mono ?_; rintro e w' ⟨rfl, rfl⟩) | (go_at_call 112; refine (out_any _ _).mono ?_; rintro e w' ⟨rfl, rfl⟩))
    go_ret2
    exact ⟨ret2 (by simp [ofR, h]) (by simp [ofE, h]), rfl⟩

def negR (a : Int) : Int := if inB a then outR (-a) else 0
def negE (a : Int) : Int := if inB a then outE (-a) else 1
theorem right_one (a : Int) : rightL [a] = inB a := by simp [rightL]
set_option maxHeartbeats 400000 in
theorem neg_any (a : Int) (w : World) :
    Calls Try.prog 108 #[.int .i64 a] w fun e w' => e = .returned (.tuple #[.int .i64 (negR a), .int .i64 (negE a)]) ∧ Ext w w' := by
  have hone := Lib.hid (right_one a)
  cases h : inB a
  · go_enter Try.func108, Try.ntmps108
    go_wp2_with (go_at_call 85; refine (right_any _ _ [a] _ (rdK_new1 _ _ _ _)).mono ?_; rintro e w' ⟨rfl, rfl⟩; rw [hone.out])
    go_ret2
    exact ⟨ret2 (by simp [negR, h]) (by simp [negE, h]), (Ext.refl _).alloc _⟩
  · obtain ⟨h1, h2⟩ := (inB_iff a).1 h
    go_enter Try.func108, Try.ntmps108
    go_wp2_with (first | (go_at_call 85; refine (right_any _ _ [a] _ (rdK_new1 _ _ _ _)).mono ?_; rintro e w' ⟨rfl, rfl⟩; rw [hone.out]) | (go_at_call 112; refine (out_any _ _).mono ?_; rintro e w' ⟨rfl, rfl⟩))
    go_ret2
    exact ⟨ret2 (by simp [negR, h]) (by simp [negE, h]), (Ext.refl _).alloc _⟩
/-- May they be added? -/
def addB (xs : List Int) : Bool := rightL xs && decide (xs.length ≤ 1024)
def addR (xs : List Int) : Int := if addB xs then outR (sumTo xs xs.length) else 0
def addE (xs : List Int) : Int := if addB xs then outE (sumTo xs xs.length) else 1
theorem sumTo_bd {xs : List Int} (h : rightL xs = true) : ∀ k, k ≤ xs.length → -2147483648 * (k : Int) ≤ sumTo xs k ∧ sumTo xs k ≤ 2147483647 * (k : Int)
  | 0, _ => by simp [sumTo]
  | k + 1, hk => by
    have ih := sumTo_bd h k (by omega)
    have hn := rightL_nth h k (by omega)
    simp only [sumTo]
    omega

set_option maxHeartbeats 400000 in
theorem add_any (A : Option Addr) (c : Nat) (xs : List Int) (w : World) (h : RdI w A xs) :
    Calls Try.prog 79 #[.slice A xs.length c] w fun e w' => e = .returned (.tuple #[.int .i64 (addR xs), .int .i64 (addE xs)]) ∧ w = w' := by
  obtain ⟨hlen, hr⟩ := h
  have H := Lib.hid (show RdI w A xs from ⟨hlen, hr⟩); have HR := Lib.hid hr; clear hr
  cases hri : rightL xs
  · go_enter Try.func79, Try.ntmps79
    go_wp2_with (go_at_call 85; refine (right_any _ _ _ _ H.out).mono ?_; rintro e w' ⟨rfl, rfl⟩)
    go_ret2
    exact ⟨ret2 (by simp [addR, addB, hri]) (by simp [addE, addB, hri]), rfl⟩
  · by_cases hl : xs.length ≤ 1024
    · have hl' : ¬ 1024 < xs.length := by omega
      have hR : Hid (addR xs = outR (sumTo xs xs.length)) := by show _ = _; simp [addR, addB, hri, hl]
      have hE : Hid (addE xs = outE (sumTo xs xs.length)) := by show _ = _; simp [addE, addB, hri, hl]
      have hb := Lib.hid (sumTo_bd hri)
      have hn := Lib.hid (rightL_nth hri)
      go_enter Try.func79, Try.ntmps79
      go_wp2_with (go_at_call 85; refine (right_any _ _ _ _ H.out).mono ?_; rintro e w' ⟨rfl, rfl⟩)
      go_loop [4, 6, 17] (fun s _ i => ∃ k : Nat, k ≤ xs.length ∧ i = .int .i64 k ∧ s = .int .i64 (sumTo xs k)) (fun _ _ i => xs.length - (intOf i).toNat)
      case atStart => exact ⟨0, by omega, rfl, rfl⟩
      case round =>
        obtain ⟨k, hk, rfl, rfl⟩ := hrel
        by_cases hlt : k < xs.length
        · obtain ⟨ad, rfl, hc⟩ := HR.out k hlt
          obtain ⟨hb1, hb2⟩ := hb.out k hk
          obtain ⟨hn1, hn2⟩ := hn.out k hlt
          go_wp2
          go_round
          case rel => exact ⟨k+1, by omega, by go_num, rfl⟩
          case measure => simp [intOf]; omega
        · obtain rfl : k = xs.length := by omega
          go_wp2_with (go_at_call 112; refine (out_any _ _).mono ?_; rintro e w' ⟨rfl, rfl⟩)
          go_ret2
          exact ⟨ret2 hR.out.symm hE.out.symm, rfl⟩
    · have hl' : 1024 < xs.length := by omega
      go_enter Try.func79, Try.ntmps79
      go_wp2_with (go_at_call 85; refine (right_any _ _ _ _ H.out).mono ?_; rintro e w' ⟨rfl, rfl⟩)
      go_ret2
      exact ⟨ret2 (by simp [addR, addB]; omega) (by simp [addE, addB]; omega), rfl⟩

/-- A quotient, floored. -/
def divQ (a b : Int) : Int := Int.fdiv (a * 65536) b
def divB (a b : Int) : Bool := rightL [a, b] && !decide (b = 0)
def divR (a b : Int) : Int := if divB a b then outR (divQ a b) else 0
def divE (a b : Int) : Int := if divB a b then outE (divQ a b) else 1
theorem tdiv_bd (x b : Int) (h : x.natAbs ≤ 140737488355328) : -140737488355328 ≤ x.tdiv b ∧ x.tdiv b ≤ 140737488355328 := by
  have : (x.tdiv b).natAbs ≤ x.natAbs := by rw [Int.natAbs_tdiv]; exact Nat.div_le_self _ _
  omega
theorem tdiv_mul_bd (x b : Int) (h : x.natAbs ≤ 140737488355328) : -140737488355328 ≤ x.tdiv b * b ∧ x.tdiv b * b ≤ 140737488355328 := by
  have : (x.tdiv b * b).natAbs ≤ x.natAbs := by rw [Int.natAbs_mul, Int.natAbs_tdiv]; exact Nat.div_mul_le_self _ _
  omega
theorem fdiv_same {x b : Int} (h : x.tdiv b * b = x) : x.fdiv b = x.tdiv b := by
  have h1 : b ∣ x := ⟨x.tdiv b, by rw [Int.mul_comm]; exact h.symm⟩
  rw [Int.fdiv_eq_tdiv]; simp [h1]
theorem fdiv_apart {x b : Int} (hb : ¬ b = 0) (h : ¬ x.tdiv b * b = x) : x.fdiv b = x.tdiv b - (if 0 ≤ x then (if 0 ≤ b then 0 else 1) else (if 0 ≤ b then 1 else 0)) := by
  have h1 : ¬ b ∣ x := fun h1 => h (Int.tdiv_mul_cancel h1)
  rw [Int.fdiv_eq_tdiv]; simp only [h1, if_false]
  by_cases x0 : 0 ≤ x
  · simp only [x0, if_true]
  · simp only [x0, if_false]
    by_cases b0 : 0 ≤ b
    · rw [if_pos b0, if_pos b0, Int.sign_eq_one_of_pos (by omega)]
    · rw [if_neg b0, if_neg b0, Int.sign_eq_neg_one_of_neg (by omega)]; simp
theorem fdiv_under {x b : Int} (hb : ¬ b = 0) (h : ¬ x.tdiv b * b = x) (hs : (x.tdiv b * b != x) = true ∧ (!decide (x < 0) == decide (b < 0)) = true) : x.fdiv b = x.tdiv b - 1 := by
  rw [fdiv_apart hb h]
  obtain ⟨_, hs⟩ := hs
  by_cases x0 : x < 0 <;> by_cases b0 : b < 0 <;> simp [x0, b0] at hs
  · rw [if_neg (by omega), if_pos (by omega)]
  · rw [if_pos (by omega), if_neg (by omega)]
theorem fdiv_over {x b : Int} (hb : ¬ b = 0) (h : ¬ x.tdiv b * b = x) (hs : (x.tdiv b * b != x) = false ∨ (!decide (x < 0) == decide (b < 0)) = false) : x.fdiv b = x.tdiv b := by
  rw [fdiv_apart hb h]
  rcases hs with hs | hs
  · simp at hs; exact absurd hs h
  by_cases x0 : x < 0 <;> by_cases b0 : b < 0 <;> simp [x0, b0] at hs
  · rw [if_neg (by omega), if_neg (by omega)]; simp
  · rw [if_pos (by omega), if_pos (by omega)]; simp

end Go.Proofs.Ytmgckodihnmjoaa
