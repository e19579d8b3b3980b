/-
  The package affine: a quarter round an axis; walked. Conditions: none.
-/
import Derived.Test.YtmgckodihnmjoaaAff3
set_option linter.unusedVariables false
set_option linter.unusedSimpArgs false
namespace Go.Proofs.Ytmgckodihnmjoaa
open Go.RowKit

def turnC (x : Int) : Int := (x.tmod 3 + 3) % 3
def turnV (x : Int) (j : Nat) : Int :=
  if turnC x = 0 then (if j = 0 then 65536 else if j = 6 then -65536 else if j = 9 then 65536 else 0)
  else if turnC x = 1 then (if j = 5 then 65536 else if j = 8 then -65536 else if j = 2 then 65536 else 0)
  else (if j = 10 then 65536 else if j = 1 then -65536 else if j = 4 then 65536 else 0)
theorem tmod3 (x : Int) : x.tmod 3 = -2 ∨ x.tmod 3 = -1 ∨ x.tmod 3 = 0 ∨ x.tmod 3 = 1 ∨ x.tmod 3 = 2 := by
  have h1 := Int.tmod_lt_of_pos x (show (0 : Int) < 3 by decide)
  have h2 := Int.lt_tmod_of_pos x (show (0 : Int) < 3 by decide)
  omega
set_option maxRecDepth 20000 in
set_option maxHeartbeats 3200000 in
theorem mturn_any (x : Int) (w : World) : Calls Try.prog 37 #[.int .i64 x] w (RetM0 w (turnV x)) := by
  rcases tmod3 x with h | h | h | h | h
  · have hc : turnC x = 1 := by unfold turnC; rw [h]; decide
    have hv : Hid (∀ j, turnV x j = (if j = 5 then 65536 else if j = 8 then -65536 else if j = 2 then 65536 else 0)) := by show ∀ _, _; intro j; simp [turnV, hc]
    clear hc
    go_enter Try.func37, Try.ntmps37
    go_wp2
    exact bodyPost_ret (v := .agg #[.int .i64 (0), .int .i64 (0), .int .i64 (65536), .int .i64 (0), .int .i64 (0), .int .i64 (65536), .int .i64 (0), .int .i64 (0), .int .i64 (-65536), .int .i64 (0), .int .i64 (0), .int .i64 (0)]) (by simp [results, Try.results37, go_sem]) rfl ⟨by simp only [hv.out]; rfl, by (repeat (first | exact Ext.refl _ | assumption | (with_reducible refine Ext.alloc ?_ _) | (with_reducible refine Ext.drew ?_) | (with_reducible refine Ext.drewN ?_ _) | (refine Ext.trans ?_ (by assumption))))⟩
  · have hc : turnC x = 2 := by unfold turnC; rw [h]; decide
    have hv : Hid (∀ j, turnV x j = (if j = 10 then 65536 else if j = 1 then -65536 else if j = 4 then 65536 else 0)) := by show ∀ _, _; intro j; simp [turnV, hc]
    clear hc
    go_enter Try.func37, Try.ntmps37
    go_wp2
    exact bodyPost_ret (v := .agg #[.int .i64 (0), .int .i64 (-65536), .int .i64 (0), .int .i64 (0), .int .i64 (65536), .int .i64 (0), .int .i64 (0), .int .i64 (0), .int .i64 (0), .int .i64 (0), .int .i64 (65536), .int .i64 (0)]) (by simp [results, Try.results37, go_sem]) rfl ⟨by simp only [hv.out]; rfl, by (repeat (first | exact Ext.refl _ | assumption | (with_reducible refine Ext.alloc ?_ _) | (with_reducible refine Ext.drew ?_) | (with_reducible refine Ext.drewN ?_ _) | (refine Ext.trans ?_ (by assumption))))⟩
  · have hc : turnC x = 0 := by unfold turnC; rw [h]; decide
    have hv : Hid (∀ j, turnV x j = (if j = 0 then 65536 else if j = 6 then -65536 else if j = 9 then 65536 else 0)) := by show ∀ _, _; intro j; simp [turnV, hc]
    clear hc
    go_enter Try.func37, Try.ntmps37
    go_wp2
    exact bodyPost_ret (v := .agg #[.int .i64 (65536), .int .i64 (0), .int .i64 (0), .int .i64 (0), .int .i64 (0), .int .i64 (0), .int .i64 (-65536), .int .i64 (0), .int .i64 (0), .int .i64 (65536), .int .i64 (0), .int .i64 (0)]) (by simp [results, Try.results37, go_sem]) rfl ⟨by simp only [hv.out]; rfl, by (repeat (first | exact Ext.refl _ | assumption | (with_reducible refine Ext.alloc ?_ _) | (with_reducible refine Ext.drew ?_) | (with_reducible refine Ext.drewN ?_ _) | (refine Ext.trans ?_ (by assumption))))⟩
  · have hc : turnC x = 1 := by unfold turnC; rw [h]; decide
    have hv : Hid (∀ j, turnV x j = (if j = 5 then 65536 else if j = 8 then -65536 else if j = 2 then 65536 else 0)) := by show ∀ _, _; intro j; simp [turnV, hc]
    clear hc
    go_enter Try.func37, Try.ntmps37
    go_wp2
    exact bodyPost_ret (v := .agg #[.int .i64 (0), .int .i64 (0), .int .i64 (65536), .int .i64 (0), .int .i64 (0), .int .i64 (65536), .int .i64 (0), .int .i64 (0), .int .i64 (-65536), .int .i64 (0), .int .i64 (0), .int .i64 (0)]) (by simp [results, Try.results37, go_sem]) rfl ⟨by simp only [hv.out]; rfl, by (repeat (first | exact Ext.refl _ | assumption | (with_reducible refine Ext.alloc ?_ _) | (with_reducible refine Ext.drew ?_) | (with_reducible refine Ext.drewN ?_ _) | (refine Ext.trans ?_ (by assumption))))⟩
  · have hc : turnC x = 2 := by unfold turnC; rw [h]; decide
    have hv : Hid (∀ j, turnV x j = (if j = 10 then 65536 else if j = 1 then -65536 else if j = 4 then 65536 else 0)) := by show ∀ _, _; intro j; simp [turnV, hc]
    clear hc
    go_enter Try.func37, Try.ntmps37
    go_wp2
    exact bodyPost_ret (v := .agg #[.int .i64 (0), .int .i64 (-65536), .int .i64 (0), .int .i64 (0), .int .i64 (65536), .int .i64 (0), .int .i64 (0), .int .i64 (0), .int .i64 (0), .int .i64 (0), .int .i64 (65536), .int .i64 (0)]) (by simp [results, Try.results37, go_sem]) rfl ⟨by simp only [hv.out]; rfl, by (repeat (first | exact Ext.refl _ | assumption | (with_reducible refine Ext.alloc ?_ _) | (with_reducible refine Ext.drew ?_) | (with_reducible refine Ext.drewN ?_ _) | (refine Ext.trans ?_ (by assumption))))⟩
end Go.Proofs.Ytmgckodihnmjoaa
