/-
  The law VecOf, walked. Conditions: none.
-/
import Derived.Test.YtmgckodihnmjoaaLaw02
set_option linter.unusedVariables false
set_option linter.unusedSimpArgs false
namespace Go.Proofs.Ytmgckodihnmjoaa
open Go.RowKit

theorem ofE_or (n : Int) : ofE n = 0 ∨ ofE n = 6 := by
  unfold ofE outE; split <;> (try split) <;> simp
theorem ofvE_eq (x y z : Int) : ofvE x y z = if ofE x = 0 ∧ ofE y = 0 ∧ ofE z = 0 then 0 else 6 := by
  unfold ofvE e3
  rcases ofE_or x with h1 | h1 <;> rcases ofE_or y with h2 | h2 <;> rcases ofE_or z with h3 | h3 <;> simp [h1, h2, h3]
theorem ofvR_yes {x y z : Int} (h1 : ofE x = 0) (h2 : ofE y = 0) (h3 : ofE z = 0) (r : Int) : ofvR x y z r = ofR r := by simp [ofvR, r3, e3, h1, h2, h3]
theorem ofvR_no {x y z : Int} (h : ¬ (ofE x = 0 ∧ ofE y = 0 ∧ ofE z = 0)) (r : Int) : ofvR x y z r = 0 := by
  have := ofvE_eq x y z
  rw [if_neg h] at this
  unfold ofvR
  exact r3_no (by unfold ofvE at this; rw [this]; decide) _
set_option maxRecDepth 20000 in
set_option maxHeartbeats 3200000 in
theorem vecOf_any (x y z : Int) (w : World) : Calls Try.prog 3 #[.int .i64 x, .int .i64 y, .int .i64 z] w fun e w' => e = .returned (.bool true) ∧ Ext w w' := by
  have hE := ofvE_eq x y z
  by_cases hall : ofE x = 0 ∧ ofE y = 0 ∧ ofE z = 0
  · rw [if_pos hall] at hE
    obtain ⟨h1, h2, h3⟩ := hall
    have hR := ofvR_yes h1 h2 h3
    have HE := Lib.hid hE; have HR := Lib.hid hR; have H1 := Lib.hid h1; have H2 := Lib.hid h2; have H3 := Lib.hid h3
    clear hE hR h1 h2 h3
    have hq : ∀ w, (binOp .eql 24 (.agg #[.int .i64 (ofR x), .int .i64 (ofR y), .int .i64 (ofR z)]) (.agg #[.int .i64 (ofR x), .int .i64 (ofR y), .int .i64 (ofR z)])).run Try.prog w = .ok (.bool true) w := fun w => by rw [veq_run]; simp
    go_enter Try.func3, Try.ntmps3
    go_wp2_with (go_at_call 14; (with_reducible refine (vof_any _ _ _ _).mono ?_); rintro e w1 ⟨rfl, hx1⟩; rw [HE.out, HR.out, HR.out, HR.out])
    refine wp_loop_rounds 4 ?_
    rw [rounds_succ]
    go_wp2_with (go_at_call 15; (with_reducible refine (rof_any _ _).mono ?_); rintro e w2 ⟨rfl, rfl⟩; rw [H1.out])
    rw [rounds_succ]
    go_wp2_with (go_at_call 15; (with_reducible refine (rof_any _ _).mono ?_); rintro e w2 ⟨rfl, rfl⟩; rw [H2.out])
    rw [rounds_succ]
    go_wp2_with (go_at_call 15; (with_reducible refine (rof_any _ _).mono ?_); rintro e w2 ⟨rfl, rfl⟩; rw [H3.out])
    rw [rounds_succ]
    go_wp2_with (go_at_call 16; (with_reducible refine (alive02_any _).mono ?_); rintro e w9 ⟨rfl, hx9⟩; have q1 := (Lies.new w1 #[.int .i64 (ofR x), .int .i64 (ofR y), .int .i64 (ofR z)] 24 _ rfl).ext ((((Ext.refl _).alloc (.cells #[.int .i64 x, .int .i64 y, .int .i64 z] 3)).alloc (.cells #[.int .i64 (ofR x), .int .i64 (ofR y), .int .i64 (ofR z)] 24)).trans hx9); have q2 := (Lies.new ((w1.alloc (.cells #[.int .i64 (ofR x), .int .i64 (ofR y), .int .i64 (ofR z)] 24)).alloc (.cells #[.int .i64 x, .int .i64 y, .int .i64 z] 3)) #[.int .i64 (ofR x), .int .i64 (ofR y), .int .i64 (ofR z)] 24 (w1.heap.size + 1 + 1) (by simp)).ext hx9; obtain ⟨⟨b0, _⟩, ⟨b1, _⟩, b2, _⟩ := q1.three; obtain ⟨⟨d0, _⟩, ⟨d1, _⟩, d2, _⟩ := q2.three; clear q1 q2)
    go_ret
    exact ⟨ret_eq rfl, (((hx1.alloc _).alloc _).alloc _).trans hx9⟩
  · rw [if_neg hall] at hE
    have hR := ofvR_no hall
    have HE := Lib.hid hE; have HR := Lib.hid hR
    clear hE hR
    have hq : ∀ w, (binOp .eql 24 (.agg #[.int .i64 0, .int .i64 0, .int .i64 0]) (.agg #[.int .i64 0, .int .i64 0, .int .i64 0])).run Try.prog w = .ok (.bool true) w := fun w => by rw [veq_run]; simp
    rcases ofE_or x with h1 | h1 <;> rcases ofE_or y with h2 | h2 <;> rcases ofE_or z with h3 | h3
    · exact absurd ⟨h1, h2, h3⟩ hall
    all_goals
      have H1 := Lib.hid h1; have H2 := Lib.hid h2; have H3 := Lib.hid h3
      clear h1 h2 h3 hall
      go_enter Try.func3, Try.ntmps3
      go_wp2_with (go_at_call 14; (with_reducible refine (vof_any _ _ _ _).mono ?_); rintro e w1 ⟨rfl, hx1⟩; rw [HE.out, HR.out, HR.out, HR.out])
      refine wp_loop_rounds 4 ?_
      rw [rounds_succ]
      go_wp2_with (go_at_call 15; (with_reducible refine (rof_any _ _).mono ?_); rintro e w2 ⟨rfl, rfl⟩; rw [H1.out])
      rw [rounds_succ]
      go_wp2_with (go_at_call 15; (with_reducible refine (rof_any _ _).mono ?_); rintro e w2 ⟨rfl, rfl⟩; rw [H2.out])
      rw [rounds_succ]
      go_wp2_with (go_at_call 15; (with_reducible refine (rof_any _ _).mono ?_); rintro e w2 ⟨rfl, rfl⟩; rw [H3.out])
      rw [rounds_succ]
      go_wp2_with (go_at_call 16; (with_reducible refine (alive02_any _).mono ?_); rintro e w9 ⟨rfl, hx9⟩; have q1 := (Lies.new w1 #[.int .i64 0, .int .i64 0, .int .i64 0] 24 _ rfl).ext ((((Ext.refl _).alloc (.cells #[.int .i64 x, .int .i64 y, .int .i64 z] 3)).alloc (.cells #[.int .i64 0, .int .i64 0, .int .i64 0] 24)).trans hx9); have q2 := (Lies.new ((w1.alloc (.cells #[.int .i64 0, .int .i64 0, .int .i64 0] 24)).alloc (.cells #[.int .i64 x, .int .i64 y, .int .i64 z] 3)) #[.int .i64 0, .int .i64 0, .int .i64 0] 24 (w1.heap.size + 1 + 1) (by simp)).ext hx9; obtain ⟨⟨b0, _⟩, ⟨b1, _⟩, b2, _⟩ := q1.three; obtain ⟨⟨d0, _⟩, ⟨d1, _⟩, d2, _⟩ := q2.three; clear q1 q2)
      go_ret
      exact ⟨ret_eq rfl, (((hx1.alloc _).alloc _).alloc _).trans hx9⟩
end Go.Proofs.Ytmgckodihnmjoaa
