/-
  The reference of layer 3: whether a matrix may be; the diagonal, the one that leaves all; walked. Conditions: none.
-/
import Derived.Test.YtmgckodihnmjoaaAff4
import Derived.Test.YtmgckodihnmjoaaRef1
set_option linter.unusedVariables false
set_option linter.unusedSimpArgs false
namespace Go.Proofs.Ytmgckodihnmjoaa
open Go.RowKit

theorem rright_lit12 (m : Nat → Int) (w : World) (t n : Nat) (hn : n = w.heap.size) : Calls Try.prog 46 #[.slice (some ⟨n, 0, none⟩) 12 12] (w.alloc (.cells #[.int .i64 (m 0), .int .i64 (m 1), .int .i64 (m 2), .int .i64 (m 3), .int .i64 (m 4), .int .i64 (m 5), .int .i64 (m 6), .int .i64 (m 7), .int .i64 (m 8), .int .i64 (m 9), .int .i64 (m 10), .int .i64 (m 11)] t)) fun e w' => e = .returned (.bool (matB m)) ∧ w.alloc (.cells #[.int .i64 (m 0), .int .i64 (m 1), .int .i64 (m 2), .int .i64 (m 3), .int .i64 (m 4), .int .i64 (m 5), .int .i64 (m 6), .int .i64 (m 7), .int .i64 (m 8), .int .i64 (m 9), .int .i64 (m 10), .int .i64 (m 11)] t) = w' :=
  rright_any _ 12 (matL m) _ (rdK_lit .i64 w (matL m) t (0, 0) (by simp [matL]) n hn)
set_option maxRecDepth 20000 in
set_option maxHeartbeats 800000 in
theorem rmright_any (m : Nat → Int) (w : World) : Calls Try.prog 31 #[.agg #[.int .i64 (m 0), .int .i64 (m 1), .int .i64 (m 2), .int .i64 (m 3), .int .i64 (m 4), .int .i64 (m 5), .int .i64 (m 6), .int .i64 (m 7), .int .i64 (m 8), .int .i64 (m 9), .int .i64 (m 10), .int .i64 (m 11)]] w fun e w' => e = .returned (.bool (matB m)) ∧ Ext w w' := by
  go_enter Try.func31, Try.ntmps31
  go_wp2_with (go_at_call 46; (with_reducible refine (rright_lit12 m _ _ _ rfl).mono ?_); rintro e w' ⟨rfl, rfl⟩)
  go_ret
  exact ⟨rfl, (Ext.refl _).alloc _⟩
set_option maxRecDepth 20000 in
set_option maxHeartbeats 1600000 in
theorem rdiag_any (x y z : Int) (w : World) : Calls Try.prog 43 #[.agg #[.int .i64 x, .int .i64 y, .int .i64 z]] w (RetM0 w (diagV x y z)) := by
  go_enter Try.func43, Try.ntmps43
  go_wp2
  refine wp_loop_rounds 4 ?_
  rw [rounds_succ]
  go_wp2
  rw [rounds_succ]
  go_wp2
  rw [rounds_succ]
  go_wp2
  rw [rounds_succ]
  go_wp2
  exact bodyPost_ret (v := .agg #[.int .i64 x, .int .i64 0, .int .i64 0, .int .i64 0, .int .i64 0, .int .i64 y, .int .i64 0, .int .i64 0, .int .i64 0, .int .i64 0, .int .i64 z, .int .i64 0]) (by simp [results, Try.results43, go_sem]) rfl ⟨rfl, by (repeat (first | exact Ext.refl _ | assumption | (with_reducible refine Ext.alloc ?_ _) | (with_reducible refine Ext.drew ?_) | (with_reducible refine Ext.drewN ?_ _) | (refine Ext.trans ?_ (by assumption))))⟩
set_option maxRecDepth 20000 in
set_option maxHeartbeats 1600000 in
theorem rmsame_any (w : World) : Calls Try.prog 39 #[] w (RetM0 w (diagV 65536 65536 65536)) := by
  have hl0 : w.heap.size ≤ w.heap.size := by omega
  have hres := Lib.hid (row12 (v := zeroM) (Lies.new w #[.int .i64 (zeroM 0), .int .i64 (zeroM 1), .int .i64 (zeroM 2), .int .i64 (zeroM 3), .int .i64 (zeroM 4), .int .i64 (zeroM 5), .int .i64 (zeroM 6), .int .i64 (zeroM 7), .int .i64 (zeroM 8), .int .i64 (zeroM 9), .int .i64 (zeroM 10), .int .i64 (zeroM 11)] 49 _ rfl))
  go_enter Try.func39, Try.ntmps39
  go_wp2_with (go_at_call 43; (with_reducible refine (rdiag_any _ _ _ _).mono ?_); rintro e w1 ⟨rfl, hx1⟩; have hk_ := fun i v hv => ((hres.out.ext hx1).lies).at_ i v hv; obtain ⟨g0, gf0⟩ := hk_ 0 _ rfl; obtain ⟨g1, gf1⟩ := hk_ 1 _ rfl; obtain ⟨g2, gf2⟩ := hk_ 2 _ rfl; obtain ⟨g3, gf3⟩ := hk_ 3 _ rfl; obtain ⟨g4, gf4⟩ := hk_ 4 _ rfl; obtain ⟨g5, gf5⟩ := hk_ 5 _ rfl; obtain ⟨g6, gf6⟩ := hk_ 6 _ rfl; obtain ⟨g7, gf7⟩ := hk_ 7 _ rfl; obtain ⟨g8, gf8⟩ := hk_ 8 _ rfl; obtain ⟨g9, gf9⟩ := hk_ 9 _ rfl; obtain ⟨g10, gf10⟩ := hk_ 10 _ rfl; obtain ⟨g11, gf11⟩ := hk_ 11 _ rfl; clear hk_)
  clear g0 g1 g2 g3 g4 g5 g6 g7 g8 g9 g10 g11 gf0 gf1 gf2 gf3 gf4 gf5 gf6 gf7 gf8 gf9 gf10 gf11
  have HZ := Lib.hid (show RowZ ((((((((((((w1.setCell ⟨w.heap.size, 0, none⟩ (.int .i64 ((diagV 65536 65536 65536) 0))).setCell ⟨w.heap.size, 1, none⟩ (.int .i64 ((diagV 65536 65536 65536) 1))).setCell ⟨w.heap.size, 2, none⟩ (.int .i64 ((diagV 65536 65536 65536) 2))).setCell ⟨w.heap.size, 3, none⟩ (.int .i64 ((diagV 65536 65536 65536) 3))).setCell ⟨w.heap.size, 4, none⟩ (.int .i64 ((diagV 65536 65536 65536) 4))).setCell ⟨w.heap.size, 5, none⟩ (.int .i64 ((diagV 65536 65536 65536) 5))).setCell ⟨w.heap.size, 6, none⟩ (.int .i64 ((diagV 65536 65536 65536) 6))).setCell ⟨w.heap.size, 7, none⟩ (.int .i64 ((diagV 65536 65536 65536) 7))).setCell ⟨w.heap.size, 8, none⟩ (.int .i64 ((diagV 65536 65536 65536) 8))).setCell ⟨w.heap.size, 9, none⟩ (.int .i64 ((diagV 65536 65536 65536) 9))).setCell ⟨w.heap.size, 10, none⟩ (.int .i64 ((diagV 65536 65536 65536) 10))).setCell ⟨w.heap.size, 11, none⟩ (.int .i64 ((diagV 65536 65536 65536) 11))) w.heap.size 49 12 (diagV 65536 65536 65536) from RowZ.all12 (hres.out.ext hx1) (diagV 65536 65536 65536))
  have HXZ := Lib.hid (show Ext _ ((((((((((((w1.setCell ⟨w.heap.size, 0, none⟩ (.int .i64 ((diagV 65536 65536 65536) 0))).setCell ⟨w.heap.size, 1, none⟩ (.int .i64 ((diagV 65536 65536 65536) 1))).setCell ⟨w.heap.size, 2, none⟩ (.int .i64 ((diagV 65536 65536 65536) 2))).setCell ⟨w.heap.size, 3, none⟩ (.int .i64 ((diagV 65536 65536 65536) 3))).setCell ⟨w.heap.size, 4, none⟩ (.int .i64 ((diagV 65536 65536 65536) 4))).setCell ⟨w.heap.size, 5, none⟩ (.int .i64 ((diagV 65536 65536 65536) 5))).setCell ⟨w.heap.size, 6, none⟩ (.int .i64 ((diagV 65536 65536 65536) 6))).setCell ⟨w.heap.size, 7, none⟩ (.int .i64 ((diagV 65536 65536 65536) 7))).setCell ⟨w.heap.size, 8, none⟩ (.int .i64 ((diagV 65536 65536 65536) 8))).setCell ⟨w.heap.size, 9, none⟩ (.int .i64 ((diagV 65536 65536 65536) 9))).setCell ⟨w.heap.size, 10, none⟩ (.int .i64 ((diagV 65536 65536 65536) 10))).setCell ⟨w.heap.size, 11, none⟩ (.int .i64 ((diagV 65536 65536 65536) 11))) from ext12 (((Ext.refl _).alloc _).trans hx1) hl0 _ _ _ _ _ _ _ _ _ _ _ _)
  generalize ((((((((((((w1.setCell ⟨w.heap.size, 0, none⟩ (.int .i64 ((diagV 65536 65536 65536) 0))).setCell ⟨w.heap.size, 1, none⟩ (.int .i64 ((diagV 65536 65536 65536) 1))).setCell ⟨w.heap.size, 2, none⟩ (.int .i64 ((diagV 65536 65536 65536) 2))).setCell ⟨w.heap.size, 3, none⟩ (.int .i64 ((diagV 65536 65536 65536) 3))).setCell ⟨w.heap.size, 4, none⟩ (.int .i64 ((diagV 65536 65536 65536) 4))).setCell ⟨w.heap.size, 5, none⟩ (.int .i64 ((diagV 65536 65536 65536) 5))).setCell ⟨w.heap.size, 6, none⟩ (.int .i64 ((diagV 65536 65536 65536) 6))).setCell ⟨w.heap.size, 7, none⟩ (.int .i64 ((diagV 65536 65536 65536) 7))).setCell ⟨w.heap.size, 8, none⟩ (.int .i64 ((diagV 65536 65536 65536) 8))).setCell ⟨w.heap.size, 9, none⟩ (.int .i64 ((diagV 65536 65536 65536) 9))).setCell ⟨w.heap.size, 10, none⟩ (.int .i64 ((diagV 65536 65536 65536) 10))).setCell ⟨w.heap.size, 11, none⟩ (.int .i64 ((diagV 65536 65536 65536) 11))) = wz at *
  have k0 : wz.cell? ⟨w.heap.size, 0, none⟩ = some (.int .i64 ((diagV 65536 65536 65536) 0)) := (HZ.out.at_ 0 (by decide)).1
  have k1 : wz.cell? ⟨w.heap.size, 1, none⟩ = some (.int .i64 ((diagV 65536 65536 65536) 1)) := (HZ.out.at_ 1 (by decide)).1
  have k2 : wz.cell? ⟨w.heap.size, 2, none⟩ = some (.int .i64 ((diagV 65536 65536 65536) 2)) := (HZ.out.at_ 2 (by decide)).1
  have k3 : wz.cell? ⟨w.heap.size, 3, none⟩ = some (.int .i64 ((diagV 65536 65536 65536) 3)) := (HZ.out.at_ 3 (by decide)).1
  have k4 : wz.cell? ⟨w.heap.size, 4, none⟩ = some (.int .i64 ((diagV 65536 65536 65536) 4)) := (HZ.out.at_ 4 (by decide)).1
  have k5 : wz.cell? ⟨w.heap.size, 5, none⟩ = some (.int .i64 ((diagV 65536 65536 65536) 5)) := (HZ.out.at_ 5 (by decide)).1
  have k6 : wz.cell? ⟨w.heap.size, 6, none⟩ = some (.int .i64 ((diagV 65536 65536 65536) 6)) := (HZ.out.at_ 6 (by decide)).1
  have k7 : wz.cell? ⟨w.heap.size, 7, none⟩ = some (.int .i64 ((diagV 65536 65536 65536) 7)) := (HZ.out.at_ 7 (by decide)).1
  have k8 : wz.cell? ⟨w.heap.size, 8, none⟩ = some (.int .i64 ((diagV 65536 65536 65536) 8)) := (HZ.out.at_ 8 (by decide)).1
  have k9 : wz.cell? ⟨w.heap.size, 9, none⟩ = some (.int .i64 ((diagV 65536 65536 65536) 9)) := (HZ.out.at_ 9 (by decide)).1
  have k10 : wz.cell? ⟨w.heap.size, 10, none⟩ = some (.int .i64 ((diagV 65536 65536 65536) 10)) := (HZ.out.at_ 10 (by decide)).1
  have k11 : wz.cell? ⟨w.heap.size, 11, none⟩ = some (.int .i64 ((diagV 65536 65536 65536) 11)) := (HZ.out.at_ 11 (by decide)).1
  refine bodyPost_ret (v := .agg #[.int .i64 ((diagV 65536 65536 65536) 0), .int .i64 ((diagV 65536 65536 65536) 1), .int .i64 ((diagV 65536 65536 65536) 2), .int .i64 ((diagV 65536 65536 65536) 3), .int .i64 ((diagV 65536 65536 65536) 4), .int .i64 ((diagV 65536 65536 65536) 5), .int .i64 ((diagV 65536 65536 65536) 6), .int .i64 ((diagV 65536 65536 65536) 7), .int .i64 ((diagV 65536 65536 65536) 8), .int .i64 ((diagV 65536 65536 65536) 9), .int .i64 ((diagV 65536 65536 65536) 10), .int .i64 ((diagV 65536 65536 65536) 11)]) (by simp [results, Try.results39, go_sem, k0, k1, k2, k3, k4, k5, k6, k7, k8, k9, k10, k11]) rfl ⟨?_, HXZ.out⟩
  rfl
end Go.Proofs.Ytmgckodihnmjoaa
