/-
  The laws of layer 3: products of matrices that have just been laid; the live question; walked. Conditions: none. (Printed by tools/genlaw03.py.)
-/
import Derived.Test.YtmgckodihnmjoaaRef03f
import Derived.Test.YtmgckodihnmjoaaVeq
set_option linter.unusedVariables false
set_option linter.unusedSimpArgs false
namespace Go.Proofs.Ytmgckodihnmjoaa
open Go.RowKit

def pairM (a b : Nat → Int) (i j : Nat) : Int := if i = 0 then a j else b j
theorem mats_pair (a b : Nat → Int) : matsB (pairM a b) 2 = (matB a && matB b) := by
  have h0 : pairM a b 0 = a := rfl
  have h1 : pairM a b 1 = b := rfl
  simp [matsB, allN, List.range_succ, h0, h1]
theorem mul_pair (a b : Nat → Int) : mulME (pairM a b) 2 = rtwoE a b ∧ mulMR (pairM a b) 2 = rtwoR a b := by
  have h0 : pairM a b 0 = a := rfl
  have h1 : pairM a b 1 = b := rfl
  have e1 : foldE (pairM a b) 1 = twoE a b := by
    show (if foldE (pairM a b) 0 = 0 then twoE a b else _) = _
    exact if_pos rfl
  have e2 : foldR (pairM a b) 1 = twoR a b := rfl
  unfold mulME rtwoE rtwoB
  refine ⟨?_, ?_⟩
  · rw [mats_pair, if_neg (by decide : ¬ (2 : Nat) = 0), show (2 : Nat) - 1 = 1 from rfl, e1]
  · funext j
    unfold mulMR rtwoR rtwoB
    rw [mats_pair, if_neg (by decide : ¬ (2 : Nat) = 0), show (2 : Nat) - 1 = 1 from rfl, e1, e2]
    unfold twoR
    split
    · split <;> rfl
    · rfl
theorem rdM_pair (a b : Nat → Int) (w : World) (t : Nat) : RdM 12 (w.alloc (.cells #[.int .i64 (a 0), .int .i64 (a 1), .int .i64 (a 2), .int .i64 (a 3), .int .i64 (a 4), .int .i64 (a 5), .int .i64 (a 6), .int .i64 (a 7), .int .i64 (a 8), .int .i64 (a 9), .int .i64 (a 10), .int .i64 (a 11), .int .i64 (b 0), .int .i64 (b 1), .int .i64 (b 2), .int .i64 (b 3), .int .i64 (b 4), .int .i64 (b 5), .int .i64 (b 6), .int .i64 (b 7), .int .i64 (b 8), .int .i64 (b 9), .int .i64 (b 10), .int .i64 (b 11)] t)) (some ⟨w.heap.size, 0, none⟩) 2 (pairM a b) := by
  refine rdM_new 12 w _ t 2 _ _ rfl (by omega) (fun i j hi hj => ?_)
  obtain rfl | rfl : i = 0 ∨ i = 1 := by omega
  · match j, hj with
    | 0, _ => rfl
    | 1, _ => rfl
    | 2, _ => rfl
    | 3, _ => rfl
    | 4, _ => rfl
    | 5, _ => rfl
    | 6, _ => rfl
    | 7, _ => rfl
    | 8, _ => rfl
    | 9, _ => rfl
    | 10, _ => rfl
    | 11, _ => rfl
  · match j, hj with
    | 0, _ => rfl
    | 1, _ => rfl
    | 2, _ => rfl
    | 3, _ => rfl
    | 4, _ => rfl
    | 5, _ => rfl
    | 6, _ => rfl
    | 7, _ => rfl
    | 8, _ => rfl
    | 9, _ => rfl
    | 10, _ => rfl
    | 11, _ => rfl
theorem mmul_lit2 (a b : Nat → Int) (w : World) (t n : Nat) (hn : n = w.heap.size) : Calls Try.prog 32 #[.slice (some ⟨n, 0, none⟩) 2 2] (w.alloc (.cells #[.int .i64 (a 0), .int .i64 (a 1), .int .i64 (a 2), .int .i64 (a 3), .int .i64 (a 4), .int .i64 (a 5), .int .i64 (a 6), .int .i64 (a 7), .int .i64 (a 8), .int .i64 (a 9), .int .i64 (a 10), .int .i64 (a 11), .int .i64 (b 0), .int .i64 (b 1), .int .i64 (b 2), .int .i64 (b 3), .int .i64 (b 4), .int .i64 (b 5), .int .i64 (b 6), .int .i64 (b 7), .int .i64 (b 8), .int .i64 (b 9), .int .i64 (b 10), .int .i64 (b 11)] t)) (RetM (w.alloc (.cells #[.int .i64 (a 0), .int .i64 (a 1), .int .i64 (a 2), .int .i64 (a 3), .int .i64 (a 4), .int .i64 (a 5), .int .i64 (a 6), .int .i64 (a 7), .int .i64 (a 8), .int .i64 (a 9), .int .i64 (a 10), .int .i64 (a 11), .int .i64 (b 0), .int .i64 (b 1), .int .i64 (b 2), .int .i64 (b 3), .int .i64 (b 4), .int .i64 (b 5), .int .i64 (b 6), .int .i64 (b 7), .int .i64 (b 8), .int .i64 (b 9), .int .i64 (b 10), .int .i64 (b 11)] t)) (rtwoE a b) (rtwoR a b)) := by
  subst hn
  have h := mmul_any _ 2 2 (pairM a b) _ (rdM_pair a b w t) (by omega)
  rw [(mul_pair a b).1, (mul_pair a b).2] at h
  exact h
theorem rdM_four (a : Nat → Int) (w : World) (t : Nat) : RdM 12 (w.alloc (.cells #[.int .i64 (a 0), .int .i64 (a 1), .int .i64 (a 2), .int .i64 (a 3), .int .i64 (a 4), .int .i64 (a 5), .int .i64 (a 6), .int .i64 (a 7), .int .i64 (a 8), .int .i64 (a 9), .int .i64 (a 10), .int .i64 (a 11), .int .i64 (a 0), .int .i64 (a 1), .int .i64 (a 2), .int .i64 (a 3), .int .i64 (a 4), .int .i64 (a 5), .int .i64 (a 6), .int .i64 (a 7), .int .i64 (a 8), .int .i64 (a 9), .int .i64 (a 10), .int .i64 (a 11), .int .i64 (a 0), .int .i64 (a 1), .int .i64 (a 2), .int .i64 (a 3), .int .i64 (a 4), .int .i64 (a 5), .int .i64 (a 6), .int .i64 (a 7), .int .i64 (a 8), .int .i64 (a 9), .int .i64 (a 10), .int .i64 (a 11), .int .i64 (a 0), .int .i64 (a 1), .int .i64 (a 2), .int .i64 (a 3), .int .i64 (a 4), .int .i64 (a 5), .int .i64 (a 6), .int .i64 (a 7), .int .i64 (a 8), .int .i64 (a 9), .int .i64 (a 10), .int .i64 (a 11)] t)) (some ⟨w.heap.size, 0, none⟩) 4 (fun _ => a) := by
  refine rdM_new 12 w _ t 4 _ _ rfl (by omega) (fun i j hi hj => ?_)
  obtain rfl | rfl | rfl | rfl : i = 0 ∨ i = 1 ∨ i = 2 ∨ i = 3 := by omega
  · match j, hj with
    | 0, _ => rfl
    | 1, _ => rfl
    | 2, _ => rfl
    | 3, _ => rfl
    | 4, _ => rfl
    | 5, _ => rfl
    | 6, _ => rfl
    | 7, _ => rfl
    | 8, _ => rfl
    | 9, _ => rfl
    | 10, _ => rfl
    | 11, _ => rfl
  · match j, hj with
    | 0, _ => rfl
    | 1, _ => rfl
    | 2, _ => rfl
    | 3, _ => rfl
    | 4, _ => rfl
    | 5, _ => rfl
    | 6, _ => rfl
    | 7, _ => rfl
    | 8, _ => rfl
    | 9, _ => rfl
    | 10, _ => rfl
    | 11, _ => rfl
  · match j, hj with
    | 0, _ => rfl
    | 1, _ => rfl
    | 2, _ => rfl
    | 3, _ => rfl
    | 4, _ => rfl
    | 5, _ => rfl
    | 6, _ => rfl
    | 7, _ => rfl
    | 8, _ => rfl
    | 9, _ => rfl
    | 10, _ => rfl
    | 11, _ => rfl
  · match j, hj with
    | 0, _ => rfl
    | 1, _ => rfl
    | 2, _ => rfl
    | 3, _ => rfl
    | 4, _ => rfl
    | 5, _ => rfl
    | 6, _ => rfl
    | 7, _ => rfl
    | 8, _ => rfl
    | 9, _ => rfl
    | 10, _ => rfl
    | 11, _ => rfl
theorem mmul_lit4 (a : Nat → Int) (w : World) (t n : Nat) (hn : n = w.heap.size) : Calls Try.prog 32 #[.slice (some ⟨n, 0, none⟩) 4 4] (w.alloc (.cells #[.int .i64 (a 0), .int .i64 (a 1), .int .i64 (a 2), .int .i64 (a 3), .int .i64 (a 4), .int .i64 (a 5), .int .i64 (a 6), .int .i64 (a 7), .int .i64 (a 8), .int .i64 (a 9), .int .i64 (a 10), .int .i64 (a 11), .int .i64 (a 0), .int .i64 (a 1), .int .i64 (a 2), .int .i64 (a 3), .int .i64 (a 4), .int .i64 (a 5), .int .i64 (a 6), .int .i64 (a 7), .int .i64 (a 8), .int .i64 (a 9), .int .i64 (a 10), .int .i64 (a 11), .int .i64 (a 0), .int .i64 (a 1), .int .i64 (a 2), .int .i64 (a 3), .int .i64 (a 4), .int .i64 (a 5), .int .i64 (a 6), .int .i64 (a 7), .int .i64 (a 8), .int .i64 (a 9), .int .i64 (a 10), .int .i64 (a 11), .int .i64 (a 0), .int .i64 (a 1), .int .i64 (a 2), .int .i64 (a 3), .int .i64 (a 4), .int .i64 (a 5), .int .i64 (a 6), .int .i64 (a 7), .int .i64 (a 8), .int .i64 (a 9), .int .i64 (a 10), .int .i64 (a 11)] t)) (RetM (w.alloc (.cells #[.int .i64 (a 0), .int .i64 (a 1), .int .i64 (a 2), .int .i64 (a 3), .int .i64 (a 4), .int .i64 (a 5), .int .i64 (a 6), .int .i64 (a 7), .int .i64 (a 8), .int .i64 (a 9), .int .i64 (a 10), .int .i64 (a 11), .int .i64 (a 0), .int .i64 (a 1), .int .i64 (a 2), .int .i64 (a 3), .int .i64 (a 4), .int .i64 (a 5), .int .i64 (a 6), .int .i64 (a 7), .int .i64 (a 8), .int .i64 (a 9), .int .i64 (a 10), .int .i64 (a 11), .int .i64 (a 0), .int .i64 (a 1), .int .i64 (a 2), .int .i64 (a 3), .int .i64 (a 4), .int .i64 (a 5), .int .i64 (a 6), .int .i64 (a 7), .int .i64 (a 8), .int .i64 (a 9), .int .i64 (a 10), .int .i64 (a 11), .int .i64 (a 0), .int .i64 (a 1), .int .i64 (a 2), .int .i64 (a 3), .int .i64 (a 4), .int .i64 (a 5), .int .i64 (a 6), .int .i64 (a 7), .int .i64 (a 8), .int .i64 (a 9), .int .i64 (a 10), .int .i64 (a 11)] t)) (mulME (fun _ => a) 4) (mulMR (fun _ => a) 4)) := by
  subst hn
  exact mmul_any _ 4 4 (fun _ => a) _ (rdM_four a w t) (by omega)
theorem mapply_xyz (m : Nat → Int) (x y z : Int) (w : World) : Calls Try.prog 34 #[.agg #[.int .i64 (m 0), .int .i64 (m 1), .int .i64 (m 2), .int .i64 (m 3), .int .i64 (m 4), .int .i64 (m 5), .int .i64 (m 6), .int .i64 (m 7), .int .i64 (m 8), .int .i64 (m 9), .int .i64 (m 10), .int .i64 (m 11)], .agg #[.int .i64 x, .int .i64 y, .int .i64 z]] w (RetV w (appE m (s3 x y z)) (appR m (s3 x y z) 0) (appR m (s3 x y z) 1) (appR m (s3 x y z) 2)) := mapply_any m (s3 x y z) w
theorem rmapply_xyz (m : Nat → Int) (x y z : Int) (w : World) : Calls Try.prog 35 #[.agg #[.int .i64 (m 0), .int .i64 (m 1), .int .i64 (m 2), .int .i64 (m 3), .int .i64 (m 4), .int .i64 (m 5), .int .i64 (m 6), .int .i64 (m 7), .int .i64 (m 8), .int .i64 (m 9), .int .i64 (m 10), .int .i64 (m 11)], .agg #[.int .i64 x, .int .i64 y, .int .i64 z]] w (RetV w (appE m (s3 x y z)) (appR m (s3 x y z) 0) (appR m (s3 x y z) 1) (appR m (s3 x y z) 2)) := rmapply_any m (s3 x y z) w
def aM : Nat → Int := rtwoR (moveV 65536 0 5) (turnV 2)
theorem aM_eq : rtwoR (moveV 65536 0 5) (turnV 2) = aM := rfl
theorem a03_1 : rtwoE (moveV 65536 0 5) (turnV 2) = 0 ∧ appE aM (s3 131072 196608 7) = 0 ∧ appR aM (s3 131072 196608 7) 0 = -131072 ∧ appR aM (s3 131072 196608 7) 1 = 131072 ∧ appR aM (s3 131072 196608 7) 2 = 12 ∧ matB aM = true := by decide +kernel
set_option maxRecDepth 20000 in
set_option maxHeartbeats 3200000 in
theorem alive03_any (w : World) : Calls Try.prog 30 #[] w fun e w' => e = .returned (.bool true) ∧ Ext w w' := by
  have i0 : ∀ w, (Instr.index 49 (.agg #[.int .i64 (diagV 65536 65536 65536 0), .int .i64 (diagV 65536 65536 65536 1), .int .i64 (diagV 65536 65536 65536 2), .int .i64 (diagV 65536 65536 65536 3), .int .i64 (diagV 65536 65536 65536 4), .int .i64 (diagV 65536 65536 65536 5), .int .i64 (diagV 65536 65536 65536 6), .int .i64 (diagV 65536 65536 65536 7), .int .i64 (diagV 65536 65536 65536 8), .int .i64 (diagV 65536 65536 65536 9), .int .i64 (diagV 65536 65536 65536 10), .int .i64 (diagV 65536 65536 65536 11)]) (.int .i64 5)).run Try.prog w = .ok (.int .i64 65536) w := fun _ => by kernel_rfl
  have q0 : ∀ w, (binOp .eql 24 (.agg #[.int .i64 (-131072), .int .i64 131072, .int .i64 12]) (.agg #[.int .i64 (-131072), .int .i64 131072, .int .i64 12])).run Try.prog w = .ok (.bool true) w := fun w => by rw [veq_run]; rfl
  go_enter Try.func30, Try.ntmps30
  go_wp2_with (first
    | (go_at_call 40; (with_reducible refine (mmove_any _ _ _ _).mono ?_); rintro e w1 ⟨rfl, hx1⟩)
    | (go_at_call 37; (with_reducible refine (mturn_any _ _).mono ?_); rintro e w2 ⟨rfl, hx2⟩)
    | (go_at_call 32; (with_reducible refine (mmul_lit2 _ _ _ _ _ rfl).mono ?_); rintro e w3 ⟨rfl, hx3⟩; rw [a03_1.1, aM_eq])
    | (go_at_call 34; (with_reducible refine (mapply_xyz aM 131072 196608 7 _).mono ?_); rintro e w4 ⟨rfl, hx4⟩; rw [a03_1.2.1, a03_1.2.2.1, a03_1.2.2.2.1, a03_1.2.2.2.2.1]; have r1 : ∀ W', Ext w4 W' → ∀ j, j < 12 → W'.cell? ⟨w3.heap.size, j, none⟩ = some (.int .i64 (aM j)) := fun W' h j hj => (hx4.trans h).cell ((row12 (v := aM) (Lies.new w3 _ _ _ rfl)).at_ j hj).1; have hEr : Ext w4 w4 := Ext.refl _; have hEa : ∀ W o, Ext w4 W → Ext w4 (W.alloc o) := fun W o h => h.alloc o)
    | (go_at_call 36; (with_reducible refine (mright_lit1 aM _ _ _ (by simp)).mono ?_); rintro e w5 ⟨rfl, hx5⟩; rw [a03_1.2.2.2.2.2]; clear r1 hEr hEa)
    | (go_at_call 38; (with_reducible refine (msame_any _).mono ?_); rintro e w6 ⟨rfl, hx6⟩))
  go_ret
  exact ⟨ret_eq rfl, (hx1.trans hx2).trans ((((Ext.refl _).alloc _).trans hx3).trans ((((Ext.refl _).alloc _).trans hx4).trans (((((Ext.refl _).alloc _).alloc _).trans hx5).trans hx6)))⟩
end Go.Proofs.Ytmgckodihnmjoaa
