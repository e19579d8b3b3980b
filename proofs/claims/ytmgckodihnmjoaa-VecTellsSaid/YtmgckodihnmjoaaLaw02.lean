/-
  The laws of layer 2: the live question; the vector of whole numbers; walked. Conditions: none.
-/
import Derived.Test.YtmgckodihnmjoaaVec6
import Derived.Test.YtmgckodihnmjoaaRef1
import Derived.Test.YtmgckodihnmjoaaVeq
set_option linter.unusedVariables false
set_option linter.unusedSimpArgs false
namespace Go.Proofs.Ytmgckodihnmjoaa
open Go.RowKit

def triF (x y z x' y' z' x2 y2 z2 : Int) (i j : Nat) : Int := if i = 0 then s3 x y z j else if i = 1 then s3 x' y' z' j else s3 x2 y2 z2 j
theorem vadd_lit3 (x y z x' y' z' x2 y2 z2 : Int) (w : World) (t n : Nat) (hn : n = w.heap.size) : Calls Try.prog 17 #[.slice (some ⟨n, 0, none⟩) 3 3] (w.alloc (.cells #[.int .i64 x, .int .i64 y, .int .i64 z, .int .i64 x', .int .i64 y', .int .i64 z', .int .i64 x2, .int .i64 y2, .int .i64 z2] t))
    (RetV (w.alloc (.cells #[.int .i64 x, .int .i64 y, .int .i64 z, .int .i64 x', .int .i64 y', .int .i64 z', .int .i64 x2, .int .i64 y2, .int .i64 z2] t)) (addvE (triF x y z x' y' z' x2 y2 z2) 3) (addvR (triF x y z x' y' z' x2 y2 z2) 3 0) (addvR (triF x y z x' y' z' x2 y2 z2) 3 1) (addvR (triF x y z x' y' z' x2 y2 z2) 3 2)) := by
  refine vadd_any _ 3 3 (triF x y z x' y' z' x2 y2 z2) _ (rdM_new 3 _ _ t 3 n _ hn (by omega) (fun i j hi hj => ?_)) (by omega)
  obtain rfl | rfl | rfl : i = 0 ∨ i = 1 ∨ i = 2 := by omega
  all_goals (obtain rfl | rfl | rfl : j = 0 ∨ j = 1 ∨ j = 2 := by omega)
  all_goals rfl
theorem vleast_lit2 (x y z x' y' z' : Int) (w : World) (t n : Nat) (hn : n = w.heap.size) : Calls Try.prog 27 #[.slice (some ⟨n, 0, none⟩) 2 2] (w.alloc (.cells #[.int .i64 x, .int .i64 y, .int .i64 z, .int .i64 x', .int .i64 y', .int .i64 z'] t))
    (RetV0 (w.alloc (.cells #[.int .i64 x, .int .i64 y, .int .i64 z, .int .i64 x', .int .i64 y', .int .i64 z'] t)) (leastR (pairF x y z x' y' z') 2 0) (leastR (pairF x y z x' y' z') 2 1) (leastR (pairF x y z x' y' z') 2 2)) := by
  refine vleast_any _ 2 2 (pairF x y z x' y' z') _ (rdM_new 3 _ _ t 2 n _ hn (by omega) (fun i j hi hj => ?_)) (by omega)
  obtain rfl | rfl : i = 0 ∨ i = 1 := by omega
  all_goals (obtain rfl | rfl | rfl : j = 0 ∨ j = 1 ∨ j = 2 := by omega)
  all_goals rfl
theorem a02_1 : ofvE 1 (-2) 3 = 0 ∧ ofvR 1 (-2) 3 1 = 65536 ∧ ofvR 1 (-2) 3 (-2) = -131072 ∧ ofvR 1 (-2) 3 3 = 196608 := by decide +kernel
theorem a02_2 : addvE (triF 65536 (-131072) 196608 65536 (-131072) 196608 5 0 0) 3 = 0 ∧ addvR (triF 65536 (-131072) 196608 65536 (-131072) 196608 5 0 0) 3 0 = 131077 ∧ addvR (triF 65536 (-131072) 196608 65536 (-131072) 196608 5 0 0) 3 1 = -262144 ∧ addvR (triF 65536 (-131072) 196608 65536 (-131072) 196608 5 0 0) 3 2 = 393216 := by decide +kernel
theorem a02_3 : dotE 65536 (-131072) 196608 65536 (-131072) 196608 = 0 ∧ dotR 65536 (-131072) 196608 65536 (-131072) 196608 = 917504 := by decide +kernel
theorem a02_4 : leastR (pairF 65536 (-131072) 196608 131077 (-262144) 393216) 2 0 = 65536 ∧ leastR (pairF 65536 (-131072) 196608 131077 (-262144) 393216) 2 1 = -262144 ∧ leastR (pairF 65536 (-131072) 196608 131077 (-262144) 393216) 2 2 = 196608 := by decide +kernel
set_option maxRecDepth 20000 in
set_option maxHeartbeats 3200000 in
theorem alive02_any (w : World) : Calls Try.prog 16 #[] w fun e w' => e = .returned (.bool true) ∧ Ext w w' := by
  have i0 : ∀ w, (Instr.index 24 (.agg #[.int .i64 65536, .int .i64 (-262144), .int .i64 196608]) (.int .i64 1)).run Try.prog w = .ok (.int .i64 (-262144)) w := fun _ => by kernel_rfl
  go_enter Try.func16, Try.ntmps16
  go_wp2_with (first
    | (go_at_call 14; (with_reducible refine (vof_any _ _ _ _).mono ?_); rintro e w1 ⟨rfl, hx1⟩; rw [a02_1.1, a02_1.2.1, a02_1.2.2.1, a02_1.2.2.2])
    | (go_at_call 17; (with_reducible refine (vadd_lit3 _ _ _ _ _ _ _ _ _ _ _ _ (by simp)).mono ?_); rintro e w2 ⟨rfl, hx2⟩; rw [a02_2.1, a02_2.2.1, a02_2.2.2.1, a02_2.2.2.2]; have K1 := Lib.hid ((Lies.new w1 #[.int .i64 65536, .int .i64 (-131072), .int .i64 196608] 24 _ rfl).ext (((Ext.refl _).alloc _).trans hx2)); have q := K1.out.ext ((Ext.refl w2).alloc (.cells #[.int .i64 131077, .int .i64 (-262144), .int .i64 393216] 24)); obtain ⟨⟨b0, _⟩, ⟨b2, _⟩, b4, _⟩ := q.three; clear q)
    | (go_at_call 18; (with_reducible refine (vdot_any _ _ _ _ _ _ _).mono ?_); rintro e w3 ⟨rfl, hx3⟩; rw [a02_3.1, a02_3.2]; have q := K1.out.ext (((Ext.refl w2).alloc (.cells #[.int .i64 131077, .int .i64 (-262144), .int .i64 393216] 24)).trans hx3); obtain ⟨⟨c0, _⟩, ⟨c2, _⟩, c4, _⟩ := q.three; have q2 := (Lies.new w2 #[.int .i64 131077, .int .i64 (-262144), .int .i64 393216] 24 _ rfl).ext hx3; obtain ⟨⟨d0, _⟩, ⟨d2, _⟩, d4, _⟩ := q2.three; clear q q2)
    | (go_at_call 27; (with_reducible refine (vleast_lit2 _ _ _ _ _ _ _ _ _ (by simp)).mono ?_); rintro e w4 ⟨rfl, hx4⟩; rw [a02_4.1, a02_4.2.1, a02_4.2.2]))
  go_ret
  exact ⟨ret_eq rfl, ((hx1.alloc _).trans (((Ext.refl _).alloc _).trans hx2)).trans ((((Ext.refl _).alloc _).trans hx3).trans (((Ext.refl _).alloc _).trans hx4))⟩
end Go.Proofs.Ytmgckodihnmjoaa
