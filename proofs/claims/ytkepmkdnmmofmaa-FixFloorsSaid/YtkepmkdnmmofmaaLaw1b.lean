/-
  The law FixFloors, walked, for any three numbers of 32 bits. Conditions: none.
-/
import Derived.Test.YtkepmkdnmmofmaaLaw1
set_option linter.unusedVariables false
set_option linter.unusedSimpArgs false
namespace Go.Proofs.Ytkepmkdnmmofmaa
open Go.RowKit

theorem right_i32 {a b : Int} (ha : -2147483648 ≤ a) (ha' : a ≤ 2147483647) (hb : -2147483648 ≤ b) (hb' : b ≤ 2147483647) : rightL [a, b] = true := by
  simp [rightL, inB_t ha ha', inB_t hb hb']
theorem mul_cases {a b : Int} (ha : -2147483648 ≤ a) (ha' : a ≤ 2147483647) (hb : -2147483648 ≤ b) (hb' : b ≤ 2147483647) :
    (∃ P, mulR a b = P ∧ mulE a b = 0 ∧ -2147483648 ≤ P ∧ P ≤ 2147483647 ∧ P * 65536 ≤ a * b ∧ a * b < P * 65536 + 65536) ∨ (mulR a b = 0 ∧ mulE a b = 6) := by
  have hr := right_i32 ha ha' hb hb'
  cases h : inB (a * b / 65536)
  · right; simp [mulR, mulE, hr, outR, outE, h]
  · left
    obtain ⟨h1, h2⟩ := (inB_iff _).1 h
    exact ⟨a * b / 65536, by simp [mulR, hr, outR, h], by simp [mulE, hr, outE, h], h1, h2, by omega, by omega⟩
theorem mul_one' {a : Int} (ha : -2147483648 ≤ a) (ha' : a ≤ 2147483647) : mulR a 65536 = a ∧ mulE a 65536 = 0 := by
  have hr := right_i32 ha ha' (b := 65536) (by omega) (by omega)
  have h : inB (a * 65536 / 65536) = true := by rw [show a * 65536 / 65536 = a by omega]; exact inB_t ha ha'
  constructor
  · simp only [mulR, hr, if_true, outR, h]; omega
  · simp only [mulE, hr, if_true, outE, h]
theorem div_cases {a b : Int} (ha : -2147483648 ≤ a) (ha' : a ≤ 2147483647) (hb : -2147483648 ≤ b) (hb' : b ≤ 2147483647) :
    (b = 0 ∧ divE a b = 1) ∨ (b ≠ 0 ∧ divE a b = 6) ∨ (∃ d, divR a b = d ∧ divE a b = 0 ∧ 0 < b ∧ d * b ≤ a * 65536 ∧ a * 65536 < d * b + b) ∨ (∃ d, divR a b = d ∧ divE a b = 0 ∧ b < 0 ∧ a * 65536 ≤ d * b ∧ d * b + b < a * 65536) := by
  have hr := right_i32 ha ha' hb hb'
  by_cases h0 : b = 0
  · left; subst h0; exact ⟨rfl, by simp [divE, divB]⟩
  · have hB : divB a b = true := by simp [divB, hr, h0]
    cases h : inB (divQ a b)
    · right; left; exact ⟨h0, by simp [divE, hB, outE, h]⟩
    · right; right
      have hR : divR a b = divQ a b := by simp [divR, hB, outR, h]
      have hE : divE a b = 0 := by simp [divE, hB, outE, h]
      have e := Int.mul_fdiv_add_fmod (a * 65536) b
      rw [Int.mul_comm] at e
      by_cases hp : 0 < b
      · left
        have h1 := Int.fmod_nonneg_of_pos (a * 65536) hp
        have h2 := Int.fmod_lt_of_pos (a * 65536) hp
        exact ⟨divQ a b, hR, hE, hp, by unfold divQ; omega, by unfold divQ; omega⟩
      · right
        have hn : b < 0 := by omega
        have h1 : (a * 65536).fmod b ≤ 0 := by
          have := Int.fmod_nonneg_of_pos (-(a * 65536)) (b := -b) (by omega)
          rw [Int.neg_fmod_neg] at this; omega
        have h2 : b < (a * 65536).fmod b := by
          have := Int.fmod_lt_of_pos (-(a * 65536)) (b := -b) (by omega)
          rw [Int.neg_fmod_neg] at this; omega
        exact ⟨divQ a b, hR, hE, hn, by unfold divQ; omega, by unfold divQ; omega⟩

set_option maxRecDepth 100000 in
set_option maxHeartbeats 8000000 in
theorem floors_any (a b c : Int) (w : World) (ha : -2147483648 ≤ a) (ha' : a ≤ 2147483647) (hb : -2147483648 ≤ b) (hb' : b ≤ 2147483647) (hc : -2147483648 ≤ c) (hc' : c ≤ 2147483647) :
    Calls Try.prog 7 #[.int .i32 a, .int .i32 b, .int .i32 c] w fun e w' => e = .returned (.bool true) ∧ Ext w w' := by
  obtain ⟨ho1, ho2⟩ := mul_one' ha ha'
  obtain ⟨hp1, hp2⟩ := prod_bd ⟨ha, ha'⟩ ⟨hb, hb'⟩
  have hd := div_cases ha ha' hb hb'
  rcases mul_cases ha ha' hb hb' with ⟨P, e1, e2, p1, p2, p3, p4⟩ | ⟨e1, e2⟩
  · rcases mul_cases ha ha' hc hc' with ⟨Q, g1, g2, q1, q2, q3, q4⟩ | ⟨g1, g2⟩
    · have hm : (c < b) ∨ (b ≤ c ∧ 0 < a ∧ P ≤ Q) ∨ (b ≤ c ∧ a < 0 ∧ Q ≤ P) ∨ (b ≤ c ∧ a = 0 ∧ P = 0 ∧ Q = 0) := by
        rcases Int.lt_or_le c b with h | h
        · exact .inl h
        · right
          rcases Int.lt_trichotomy a 0 with h0 | h0 | h0
          · have := Int.mul_le_mul_of_nonpos_left (Int.le_of_lt h0) h
            right; left; exact ⟨h, h0, by omega⟩
          · right; right; subst h0; simp at p3 p4 q3 q4; exact ⟨h, rfl, by omega, by omega⟩
          · have := Int.mul_le_mul_of_nonneg_left h (Int.le_of_lt h0)
            left; exact ⟨h, h0, by omega⟩
      clear q3 q4
      rcases hm with hm | ⟨hm, hm1, hm2⟩ | ⟨hm, hm1, hm2⟩ | ⟨hm, rfl, rfl, rfl⟩ <;> rcases hd with ⟨rfl, hd1⟩ | ⟨hb0, hd1⟩ | ⟨d, hd1, hd2, hd3, hd4, hd5⟩ | ⟨d, hd1, hd2, hd3, hd4, hd5⟩
      all_goals
        go_enter Try.func7, Try.ntmps7
        go_wp2_with (first | (go_at_call 28; (with_reducible refine (mul_any _ _ _).mono ?_); rintro e w' ⟨rfl, hx⟩) | (go_at_call 29; (with_reducible refine (div_any _ _ _).mono ?_); rintro e w' ⟨rfl, hx⟩) | (go_at_call 30; (with_reducible refine (alive1_any _).mono ?_); rintro e w' ⟨rfl, hx⟩))
        go_ret
        exact ⟨ret_eq (by first | rfl | exact congrArg Value.bool (decide_eq_true (by omega))), by (repeat (first | exact Ext.refl _ | assumption | refine Ext.alloc ?_ _ | refine Ext.drew ?_ | refine Ext.drewN ?_ _ | refine Ext.trans ?_ (by assumption)))⟩
    · rcases hd with ⟨rfl, hd1⟩ | ⟨hb0, hd1⟩ | ⟨d, hd1, hd2, hd3, hd4, hd5⟩ | ⟨d, hd1, hd2, hd3, hd4, hd5⟩
      all_goals
        go_enter Try.func7, Try.ntmps7
        go_wp2_with (first | (go_at_call 28; (with_reducible refine (mul_any _ _ _).mono ?_); rintro e w' ⟨rfl, hx⟩) | (go_at_call 29; (with_reducible refine (div_any _ _ _).mono ?_); rintro e w' ⟨rfl, hx⟩) | (go_at_call 30; (with_reducible refine (alive1_any _).mono ?_); rintro e w' ⟨rfl, hx⟩))
        go_ret
        exact ⟨ret_eq (by first | rfl | exact congrArg Value.bool (decide_eq_true (by omega))), by (repeat (first | exact Ext.refl _ | assumption | refine Ext.alloc ?_ _ | refine Ext.drew ?_ | refine Ext.drewN ?_ _ | refine Ext.trans ?_ (by assumption)))⟩
  · rcases hd with ⟨rfl, hd1⟩ | ⟨hb0, hd1⟩ | ⟨d, hd1, hd2, hd3, hd4, hd5⟩ | ⟨d, hd1, hd2, hd3, hd4, hd5⟩
    all_goals
      go_enter Try.func7, Try.ntmps7
      go_wp2_with (first | (go_at_call 28; (with_reducible refine (mul_any _ _ _).mono ?_); rintro e w' ⟨rfl, hx⟩) | (go_at_call 29; (with_reducible refine (div_any _ _ _).mono ?_); rintro e w' ⟨rfl, hx⟩) | (go_at_call 30; (with_reducible refine (alive1_any _).mono ?_); rintro e w' ⟨rfl, hx⟩))
      go_ret
      exact ⟨ret_eq (by first | rfl | exact congrArg Value.bool (decide_eq_true (by omega))), by (repeat (first | exact Ext.refl _ | assumption | refine Ext.alloc ?_ _ | refine Ext.drew ?_ | refine Ext.drewN ?_ _ | refine Ext.trans ?_ (by assumption)))⟩
end Go.Proofs.Ytkepmkdnmmofmaa
