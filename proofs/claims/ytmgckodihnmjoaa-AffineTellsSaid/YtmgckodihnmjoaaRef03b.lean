/-
  The reference of layer 3: the one that moves, the one that turns; walked. Conditions: none.
-/
import Derived.Test.YtmgckodihnmjoaaRef03a
set_option linter.unusedVariables false
set_option linter.unusedSimpArgs false
namespace Go.Proofs.Ytmgckodihnmjoaa
open Go.RowKit

set_option maxRecDepth 20000 in
set_option maxHeartbeats 3200000 in
theorem rmmove_any (x y z : Int) (w : World) : Calls Try.prog 41 #[.agg #[.int .i64 x, .int .i64 y, .int .i64 z]] w (RetM0 w (moveV x y z)) := by
  have hl0 : w.heap.size ≤ w.heap.size + 1 := by omega
  have hv := Lib.hid ((Lies.new w #[.int .i64 x, .int .i64 y, .int .i64 z] 24 _ rfl).ext ((Ext.refl _).alloc (.cells #[.int .i64 (zeroM 0), .int .i64 (zeroM 1), .int .i64 (zeroM 2), .int .i64 (zeroM 3), .int .i64 (zeroM 4), .int .i64 (zeroM 5), .int .i64 (zeroM 6), .int .i64 (zeroM 7), .int .i64 (zeroM 8), .int .i64 (zeroM 9), .int .i64 (zeroM 10), .int .i64 (zeroM 11)] 49)))
  have hres := Lib.hid (row12 (v := zeroM) (Lies.new (w.alloc (.cells #[.int .i64 x, .int .i64 y, .int .i64 z] 24)) #[.int .i64 (zeroM 0), .int .i64 (zeroM 1), .int .i64 (zeroM 2), .int .i64 (zeroM 3), .int .i64 (zeroM 4), .int .i64 (zeroM 5), .int .i64 (zeroM 6), .int .i64 (zeroM 7), .int .i64 (zeroM 8), .int .i64 (zeroM 9), .int .i64 (zeroM 10), .int .i64 (zeroM 11)] 49 (w.heap.size + 1) (by simp)))
  go_enter Try.func41, Try.ntmps41
  go_wp2_with (go_at_call 39; (with_reducible refine (rmsame_any _).mono ?_); rintro e w1 ⟨rfl, hx1⟩)
  refine wp_loop_rounds 4 ?_
  obtain ⟨⟨a0, _⟩, ⟨a1, _⟩, a2, _⟩ := (hv.out.ext (w' := (w1.alloc (.cells #[.int .i64 (diagV 65536 65536 65536 0), .int .i64 (diagV 65536 65536 65536 1), .int .i64 (diagV 65536 65536 65536 2), .int .i64 (diagV 65536 65536 65536 3), .int .i64 (diagV 65536 65536 65536 4), .int .i64 (diagV 65536 65536 65536 5), .int .i64 (diagV 65536 65536 65536 6), .int .i64 (diagV 65536 65536 65536 7), .int .i64 (diagV 65536 65536 65536 8), .int .i64 (diagV 65536 65536 65536 9), .int .i64 (diagV 65536 65536 65536 10), .int .i64 (diagV 65536 65536 65536 11)] 49))) (hx1.trans ((Ext.refl _).alloc _))).three
  rw [rounds_succ]
  go_wp2
  clear a0 a1 a2
  obtain ⟨⟨a0, _⟩, ⟨a1, _⟩, a2, _⟩ := (hv.out.ext (w' := (w1.alloc (.cells #[.int .i64 (diagV 65536 65536 65536 0), .int .i64 (diagV 65536 65536 65536 1), .int .i64 (diagV 65536 65536 65536 2), .int .i64 x, .int .i64 (diagV 65536 65536 65536 4), .int .i64 (diagV 65536 65536 65536 5), .int .i64 (diagV 65536 65536 65536 6), .int .i64 (diagV 65536 65536 65536 7), .int .i64 (diagV 65536 65536 65536 8), .int .i64 (diagV 65536 65536 65536 9), .int .i64 (diagV 65536 65536 65536 10), .int .i64 (diagV 65536 65536 65536 11)] 49))) (hx1.trans ((Ext.refl _).alloc _))).three
  rw [rounds_succ]
  go_wp2
  clear a0 a1 a2
  obtain ⟨⟨a0, _⟩, ⟨a1, _⟩, a2, _⟩ := (hv.out.ext (w' := (w1.alloc (.cells #[.int .i64 (diagV 65536 65536 65536 0), .int .i64 (diagV 65536 65536 65536 1), .int .i64 (diagV 65536 65536 65536 2), .int .i64 x, .int .i64 (diagV 65536 65536 65536 4), .int .i64 (diagV 65536 65536 65536 5), .int .i64 (diagV 65536 65536 65536 6), .int .i64 y, .int .i64 (diagV 65536 65536 65536 8), .int .i64 (diagV 65536 65536 65536 9), .int .i64 (diagV 65536 65536 65536 10), .int .i64 (diagV 65536 65536 65536 11)] 49))) (hx1.trans ((Ext.refl _).alloc _))).three
  rw [rounds_succ]
  go_wp2
  clear a0 a1 a2
  rw [rounds_succ]
  have hy : Ext ((w.alloc (.cells #[.int .i64 x, .int .i64 y, .int .i64 z] 24)).alloc (.cells #[.int .i64 (zeroM 0), .int .i64 (zeroM 1), .int .i64 (zeroM 2), .int .i64 (zeroM 3), .int .i64 (zeroM 4), .int .i64 (zeroM 5), .int .i64 (zeroM 6), .int .i64 (zeroM 7), .int .i64 (zeroM 8), .int .i64 (zeroM 9), .int .i64 (zeroM 10), .int .i64 (zeroM 11)] 49)) (w1.alloc (.cells #[.int .i64 (diagV 65536 65536 65536 0), .int .i64 (diagV 65536 65536 65536 1), .int .i64 (diagV 65536 65536 65536 2), .int .i64 x, .int .i64 (diagV 65536 65536 65536 4), .int .i64 (diagV 65536 65536 65536 5), .int .i64 (diagV 65536 65536 65536 6), .int .i64 y, .int .i64 (diagV 65536 65536 65536 8), .int .i64 (diagV 65536 65536 65536 9), .int .i64 (diagV 65536 65536 65536 10), .int .i64 z] 49)) := hx1.trans ((Ext.refl _).alloc _)
  have hk_ := fun i v hv => ((hres.out.ext hy).lies).at_ i v hv; obtain ⟨g0, gf0⟩ := hk_ 0 _ rfl; obtain ⟨g1, gf1⟩ := hk_ 1 _ rfl; obtain ⟨g2, gf2⟩ := hk_ 2 _ rfl; obtain ⟨g3, gf3⟩ := hk_ 3 _ rfl; obtain ⟨g4, gf4⟩ := hk_ 4 _ rfl; obtain ⟨g5, gf5⟩ := hk_ 5 _ rfl; obtain ⟨g6, gf6⟩ := hk_ 6 _ rfl; obtain ⟨g7, gf7⟩ := hk_ 7 _ rfl; obtain ⟨g8, gf8⟩ := hk_ 8 _ rfl; obtain ⟨g9, gf9⟩ := hk_ 9 _ rfl; obtain ⟨g10, gf10⟩ := hk_ 10 _ rfl; obtain ⟨g11, gf11⟩ := hk_ 11 _ rfl; clear hk_
  go_wp2
  clear g0 g1 g2 g3 g4 g5 g6 g7 g8 g9 g10 g11 gf0 gf1 gf2 gf3 gf4 gf5 gf6 gf7 gf8 gf9 gf10 gf11
  have HZ := Lib.hid (show RowZ (((((((((((((w1.alloc (.cells #[.int .i64 (diagV 65536 65536 65536 0), .int .i64 (diagV 65536 65536 65536 1), .int .i64 (diagV 65536 65536 65536 2), .int .i64 x, .int .i64 (diagV 65536 65536 65536 4), .int .i64 (diagV 65536 65536 65536 5), .int .i64 (diagV 65536 65536 65536 6), .int .i64 y, .int .i64 (diagV 65536 65536 65536 8), .int .i64 (diagV 65536 65536 65536 9), .int .i64 (diagV 65536 65536 65536 10), .int .i64 z] 49)).setCell ⟨(w.heap.size + 1), 0, none⟩ (.int .i64 (diagV 65536 65536 65536 0))).setCell ⟨(w.heap.size + 1), 1, none⟩ (.int .i64 (diagV 65536 65536 65536 1))).setCell ⟨(w.heap.size + 1), 2, none⟩ (.int .i64 (diagV 65536 65536 65536 2))).setCell ⟨(w.heap.size + 1), 3, none⟩ (.int .i64 x)).setCell ⟨(w.heap.size + 1), 4, none⟩ (.int .i64 (diagV 65536 65536 65536 4))).setCell ⟨(w.heap.size + 1), 5, none⟩ (.int .i64 (diagV 65536 65536 65536 5))).setCell ⟨(w.heap.size + 1), 6, none⟩ (.int .i64 (diagV 65536 65536 65536 6))).setCell ⟨(w.heap.size + 1), 7, none⟩ (.int .i64 y)).setCell ⟨(w.heap.size + 1), 8, none⟩ (.int .i64 (diagV 65536 65536 65536 8))).setCell ⟨(w.heap.size + 1), 9, none⟩ (.int .i64 (diagV 65536 65536 65536 9))).setCell ⟨(w.heap.size + 1), 10, none⟩ (.int .i64 (diagV 65536 65536 65536 10))).setCell ⟨(w.heap.size + 1), 11, none⟩ (.int .i64 z)) (w.heap.size + 1) 49 12 (moveV x y z) from RowZ.all12 (hres.out.ext hy) (moveV x y z))
  have HXZ := Lib.hid (show Ext _ (((((((((((((w1.alloc (.cells #[.int .i64 (diagV 65536 65536 65536 0), .int .i64 (diagV 65536 65536 65536 1), .int .i64 (diagV 65536 65536 65536 2), .int .i64 x, .int .i64 (diagV 65536 65536 65536 4), .int .i64 (diagV 65536 65536 65536 5), .int .i64 (diagV 65536 65536 65536 6), .int .i64 y, .int .i64 (diagV 65536 65536 65536 8), .int .i64 (diagV 65536 65536 65536 9), .int .i64 (diagV 65536 65536 65536 10), .int .i64 z] 49)).setCell ⟨(w.heap.size + 1), 0, none⟩ (.int .i64 (diagV 65536 65536 65536 0))).setCell ⟨(w.heap.size + 1), 1, none⟩ (.int .i64 (diagV 65536 65536 65536 1))).setCell ⟨(w.heap.size + 1), 2, none⟩ (.int .i64 (diagV 65536 65536 65536 2))).setCell ⟨(w.heap.size + 1), 3, none⟩ (.int .i64 x)).setCell ⟨(w.heap.size + 1), 4, none⟩ (.int .i64 (diagV 65536 65536 65536 4))).setCell ⟨(w.heap.size + 1), 5, none⟩ (.int .i64 (diagV 65536 65536 65536 5))).setCell ⟨(w.heap.size + 1), 6, none⟩ (.int .i64 (diagV 65536 65536 65536 6))).setCell ⟨(w.heap.size + 1), 7, none⟩ (.int .i64 y)).setCell ⟨(w.heap.size + 1), 8, none⟩ (.int .i64 (diagV 65536 65536 65536 8))).setCell ⟨(w.heap.size + 1), 9, none⟩ (.int .i64 (diagV 65536 65536 65536 9))).setCell ⟨(w.heap.size + 1), 10, none⟩ (.int .i64 (diagV 65536 65536 65536 10))).setCell ⟨(w.heap.size + 1), 11, none⟩ (.int .i64 z)) from ext12 (((((Ext.refl _).alloc _).alloc _)).trans hy) hl0 _ _ _ _ _ _ _ _ _ _ _ _)
  generalize (((((((((((((w1.alloc (.cells #[.int .i64 (diagV 65536 65536 65536 0), .int .i64 (diagV 65536 65536 65536 1), .int .i64 (diagV 65536 65536 65536 2), .int .i64 x, .int .i64 (diagV 65536 65536 65536 4), .int .i64 (diagV 65536 65536 65536 5), .int .i64 (diagV 65536 65536 65536 6), .int .i64 y, .int .i64 (diagV 65536 65536 65536 8), .int .i64 (diagV 65536 65536 65536 9), .int .i64 (diagV 65536 65536 65536 10), .int .i64 z] 49)).setCell ⟨(w.heap.size + 1), 0, none⟩ (.int .i64 (diagV 65536 65536 65536 0))).setCell ⟨(w.heap.size + 1), 1, none⟩ (.int .i64 (diagV 65536 65536 65536 1))).setCell ⟨(w.heap.size + 1), 2, none⟩ (.int .i64 (diagV 65536 65536 65536 2))).setCell ⟨(w.heap.size + 1), 3, none⟩ (.int .i64 x)).setCell ⟨(w.heap.size + 1), 4, none⟩ (.int .i64 (diagV 65536 65536 65536 4))).setCell ⟨(w.heap.size + 1), 5, none⟩ (.int .i64 (diagV 65536 65536 65536 5))).setCell ⟨(w.heap.size + 1), 6, none⟩ (.int .i64 (diagV 65536 65536 65536 6))).setCell ⟨(w.heap.size + 1), 7, none⟩ (.int .i64 y)).setCell ⟨(w.heap.size + 1), 8, none⟩ (.int .i64 (diagV 65536 65536 65536 8))).setCell ⟨(w.heap.size + 1), 9, none⟩ (.int .i64 (diagV 65536 65536 65536 9))).setCell ⟨(w.heap.size + 1), 10, none⟩ (.int .i64 (diagV 65536 65536 65536 10))).setCell ⟨(w.heap.size + 1), 11, none⟩ (.int .i64 z)) = wz at *
  have k0 : wz.cell? ⟨(w.heap.size + 1), 0, none⟩ = some (.int .i64 (diagV 65536 65536 65536 0)) := (HZ.out.at_ 0 (by decide)).1
  have k1 : wz.cell? ⟨(w.heap.size + 1), 1, none⟩ = some (.int .i64 (diagV 65536 65536 65536 1)) := (HZ.out.at_ 1 (by decide)).1
  have k2 : wz.cell? ⟨(w.heap.size + 1), 2, none⟩ = some (.int .i64 (diagV 65536 65536 65536 2)) := (HZ.out.at_ 2 (by decide)).1
  have k3 : wz.cell? ⟨(w.heap.size + 1), 3, none⟩ = some (.int .i64 x) := (HZ.out.at_ 3 (by decide)).1
  have k4 : wz.cell? ⟨(w.heap.size + 1), 4, none⟩ = some (.int .i64 (diagV 65536 65536 65536 4)) := (HZ.out.at_ 4 (by decide)).1
  have k5 : wz.cell? ⟨(w.heap.size + 1), 5, none⟩ = some (.int .i64 (diagV 65536 65536 65536 5)) := (HZ.out.at_ 5 (by decide)).1
  have k6 : wz.cell? ⟨(w.heap.size + 1), 6, none⟩ = some (.int .i64 (diagV 65536 65536 65536 6)) := (HZ.out.at_ 6 (by decide)).1
  have k7 : wz.cell? ⟨(w.heap.size + 1), 7, none⟩ = some (.int .i64 y) := (HZ.out.at_ 7 (by decide)).1
  have k8 : wz.cell? ⟨(w.heap.size + 1), 8, none⟩ = some (.int .i64 (diagV 65536 65536 65536 8)) := (HZ.out.at_ 8 (by decide)).1
  have k9 : wz.cell? ⟨(w.heap.size + 1), 9, none⟩ = some (.int .i64 (diagV 65536 65536 65536 9)) := (HZ.out.at_ 9 (by decide)).1
  have k10 : wz.cell? ⟨(w.heap.size + 1), 10, none⟩ = some (.int .i64 (diagV 65536 65536 65536 10)) := (HZ.out.at_ 10 (by decide)).1
  have k11 : wz.cell? ⟨(w.heap.size + 1), 11, none⟩ = some (.int .i64 z) := (HZ.out.at_ 11 (by decide)).1
  refine bodyPost_ret (v := .agg #[.int .i64 (diagV 65536 65536 65536 0), .int .i64 (diagV 65536 65536 65536 1), .int .i64 (diagV 65536 65536 65536 2), .int .i64 x, .int .i64 (diagV 65536 65536 65536 4), .int .i64 (diagV 65536 65536 65536 5), .int .i64 (diagV 65536 65536 65536 6), .int .i64 y, .int .i64 (diagV 65536 65536 65536 8), .int .i64 (diagV 65536 65536 65536 9), .int .i64 (diagV 65536 65536 65536 10), .int .i64 z]) (by simp [results, Try.results41, go_sem, k0, k1, k2, k3, k4, k5, k6, k7, k8, k9, k10, k11]) rfl ⟨?_, HXZ.out⟩
  rfl
set_option maxRecDepth 20000 in
set_option maxHeartbeats 3200000 in
theorem rmturn_any (x : Int) (w : World) : Calls Try.prog 44 #[.int .i64 x] w (RetM0 w (turnV x)) := by
  rcases tmod3 x with h | h | h | h | h
  · have hc : turnC x = 1 := by unfold turnC; rw [h]; decide
    have hv : Hid (∀ j, turnV x j = (if j = 5 then 65536 else if j = 8 then -65536 else if j = 2 then 65536 else 0)) := by show ∀ _, _; intro j; simp [turnV, hc]
    clear hc
    go_enter Try.func44, Try.ntmps44
    go_wp2
    exact bodyPost_ret (v := .agg #[.int .i64 (0), .int .i64 (0), .int .i64 (65536), .int .i64 (0), .int .i64 (0), .int .i64 (65536), .int .i64 (0), .int .i64 (0), .int .i64 (-65536), .int .i64 (0), .int .i64 (0), .int .i64 (0)]) (by simp [results, Try.results44, go_sem]) rfl ⟨by simp only [hv.out]; rfl, by (repeat (first | exact Ext.refl _ | assumption | (with_reducible refine Ext.alloc ?_ _) | (with_reducible refine Ext.drew ?_) | (with_reducible refine Ext.drewN ?_ _) | (refine Ext.trans ?_ (by assumption))))⟩
  · have hc : turnC x = 2 := by unfold turnC; rw [h]; decide
    have hv : Hid (∀ j, turnV x j = (if j = 10 then 65536 else if j = 1 then -65536 else if j = 4 then 65536 else 0)) := by show ∀ _, _; intro j; simp [turnV, hc]
    clear hc
    go_enter Try.func44, Try.ntmps44
    go_wp2
    exact bodyPost_ret (v := .agg #[.int .i64 (0), .int .i64 (-65536), .int .i64 (0), .int .i64 (0), .int .i64 (65536), .int .i64 (0), .int .i64 (0), .int .i64 (0), .int .i64 (0), .int .i64 (0), .int .i64 (65536), .int .i64 (0)]) (by simp [results, Try.results44, go_sem]) rfl ⟨by simp only [hv.out]; rfl, by (repeat (first | exact Ext.refl _ | assumption | (with_reducible refine Ext.alloc ?_ _) | (with_reducible refine Ext.drew ?_) | (with_reducible refine Ext.drewN ?_ _) | (refine Ext.trans ?_ (by assumption))))⟩
  · have hc : turnC x = 0 := by unfold turnC; rw [h]; decide
    have hv : Hid (∀ j, turnV x j = (if j = 0 then 65536 else if j = 6 then -65536 else if j = 9 then 65536 else 0)) := by show ∀ _, _; intro j; simp [turnV, hc]
    clear hc
    go_enter Try.func44, Try.ntmps44
    go_wp2
    exact bodyPost_ret (v := .agg #[.int .i64 (65536), .int .i64 (0), .int .i64 (0), .int .i64 (0), .int .i64 (0), .int .i64 (0), .int .i64 (-65536), .int .i64 (0), .int .i64 (0), .int .i64 (65536), .int .i64 (0), .int .i64 (0)]) (by simp [results, Try.results44, go_sem]) rfl ⟨by simp only [hv.out]; rfl, by (repeat (first | exact Ext.refl _ | assumption | (with_reducible refine Ext.alloc ?_ _) | (with_reducible refine Ext.drew ?_) | (with_reducible refine Ext.drewN ?_ _) | (refine Ext.trans ?_ (by assumption))))⟩
  · have hc : turnC x = 1 := by unfold turnC; rw [h]; decide
    have hv : Hid (∀ j, turnV x j = (if j = 5 then 65536 else if j = 8 then -65536 else if j = 2 then 65536 else 0)) := by show ∀ _, _; intro j; simp [turnV, hc]
    clear hc
    go_enter Try.func44, Try.ntmps44
    go_wp2
    exact bodyPost_ret (v := .agg #[.int .i64 (0), .int .i64 (0), .int .i64 (65536), .int .i64 (0), .int .i64 (0), .int .i64 (65536), .int .i64 (0), .int .i64 (0), .int .i64 (-65536), .int .i64 (0), .int .i64 (0), .int .i64 (0)]) (by simp [results, Try.results44, go_sem]) rfl ⟨by simp only [hv.out]; rfl, by (repeat (first | exact Ext.refl _ | assumption | (with_reducible refine Ext.alloc ?_ _) | (with_reducible refine Ext.drew ?_) | (with_reducible refine Ext.drewN ?_ _) | (refine Ext.trans ?_ (by assumption))))⟩
  · have hc : turnC x = 2 := by unfold turnC; rw [h]; decide
    have hv : Hid (∀ j, turnV x j = (if j = 10 then 65536 else if j = 1 then -65536 else if j = 4 then 65536 else 0)) := by show ∀ _, _; intro j; simp [turnV, hc]
    clear hc
    go_enter Try.func44, Try.ntmps44
    go_wp2
    exact bodyPost_ret (v := .agg #[.int .i64 (0), .int .i64 (-65536), .int .i64 (0), .int .i64 (0), .int .i64 (65536), .int .i64 (0), .int .i64 (0), .int .i64 (0), .int .i64 (0), .int .i64 (0), .int .i64 (65536), .int .i64 (0)]) (by simp [results, Try.results44, go_sem]) rfl ⟨by simp only [hv.out]; rfl, by (repeat (first | exact Ext.refl _ | assumption | (with_reducible refine Ext.alloc ?_ _) | (with_reducible refine Ext.drew ?_) | (with_reducible refine Ext.drewN ?_ _) | (refine Ext.trans ?_ (by assumption))))⟩
end Go.Proofs.Ytmgckodihnmjoaa
