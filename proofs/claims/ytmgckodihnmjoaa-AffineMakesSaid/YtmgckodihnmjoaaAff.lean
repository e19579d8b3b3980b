/-
  The package affine: whether matrices may be; a row, a column; walked. Conditions: slices that are read lie in memory.
-/
import Derived.Test.YtmgckodihnmjoaaProd
set_option linter.unusedVariables false
set_option linter.unusedSimpArgs false
namespace Go.Proofs.Ytmgckodihnmjoaa
open Go.RowKit

def matL (m : Nat → Int) : List Int := [m 0, m 1, m 2, m 3, m 4, m 5, m 6, m 7, m 8, m 9, m 10, m 11]
def matB (m : Nat → Int) : Bool := rightL (matL m)
def matsB (f : Nat → Nat → Int) (n : Nat) : Bool := allN (fun i => matB (f i)) n
theorem right_lit12 (m : Nat → Int) (w : World) (t n : Nat) (hn : n = w.heap.size) : Calls Try.prog 85 #[.slice (some ⟨n, 0, none⟩) 12 12] (w.alloc (.cells #[.int .i64 (m 0), .int .i64 (m 1), .int .i64 (m 2), .int .i64 (m 3), .int .i64 (m 4), .int .i64 (m 5), .int .i64 (m 6), .int .i64 (m 7), .int .i64 (m 8), .int .i64 (m 9), .int .i64 (m 10), .int .i64 (m 11)] t)) fun e w' => e = .returned (.bool (matB m)) ∧ w.alloc (.cells #[.int .i64 (m 0), .int .i64 (m 1), .int .i64 (m 2), .int .i64 (m 3), .int .i64 (m 4), .int .i64 (m 5), .int .i64 (m 6), .int .i64 (m 7), .int .i64 (m 8), .int .i64 (m 9), .int .i64 (m 10), .int .i64 (m 11)] t) = w' :=
  right_any _ 12 (matL m) _ (rdK_lit .i64 w (matL m) t (0, 0) (by simp [matL]) n hn)
set_option maxRecDepth 20000 in
set_option maxHeartbeats 800000 in
theorem mright1_any (m : Nat → Int) (w : World) : Calls Try.prog 100 #[.agg #[.int .i64 (m 0), .int .i64 (m 1), .int .i64 (m 2), .int .i64 (m 3), .int .i64 (m 4), .int .i64 (m 5), .int .i64 (m 6), .int .i64 (m 7), .int .i64 (m 8), .int .i64 (m 9), .int .i64 (m 10), .int .i64 (m 11)]] w fun e w' => e = .returned (.bool (!matB m)) ∧ Ext w w' := by
  go_enter Try.func100, Try.ntmps100
  go_wp2_with (go_at_call 85; (with_reducible refine (right_lit12 m _ _ _ rfl).mono ?_); rintro e w' ⟨rfl, rfl⟩)
  go_ret
  exact ⟨rfl, (Ext.refl _).alloc _⟩
set_option maxHeartbeats 800000 in
theorem mright_any (A : Option Addr) (c n : Nat) (f : Nat → Nat → Int) (w : World) (h : RdM 12 w A n f) : Calls Try.prog 36 #[.slice A n c] w fun e w' => e = .returned (.bool (matsB f n)) ∧ Ext w w' := by
  have H := Lib.hid h; clear h
  go_enter Try.func36, Try.ntmps36
  go_wp2_with (go_at_call 99; (refine (containsM_any (fun i => matB (f i)) _ _ _ _ f H.out (fun i _ w1 _ => mright1_any (f i) w1)).mono ?_); rintro e w' ⟨rfl, hx⟩)
  go_ret
  exact ⟨ret_eq rfl, hx⟩
theorem arrayAt3 (a : Addr) (c : Nat) (w : World) : (Instr.arrayAt 24 (.slice (some a) 3 c)).run Try.prog w = .ok (.pointer (some a)) w := by kernel_rfl
set_option maxRecDepth 20000 in
set_option maxHeartbeats 1600000 in
theorem row_any (m : Nat → Int) (r : Nat) (w : World) (hr : r < 3) : Calls Try.prog 97 #[.agg #[.int .i64 (m 0), .int .i64 (m 1), .int .i64 (m 2), .int .i64 (m 3), .int .i64 (m 4), .int .i64 (m 5), .int .i64 (m 6), .int .i64 (m 7), .int .i64 (m 8), .int .i64 (m 9), .int .i64 (m 10), .int .i64 (m 11)], .int .i64 (r : Int)] w (RetV0 w (m (4 * r)) (m (4 * r + 1)) (m (4 * r + 2))) := by
  have i0 := arrayAt3
  obtain rfl | rfl | rfl : r = 0 ∨ r = 1 ∨ r = 2 := by omega
  · rw [show ((0 : Nat) : Int) = 0 from rfl]
    go_enter Try.func97, Try.ntmps97
    go_wp2
    exact bodyPost_ret (v := .agg #[.int .i64 (m 0), .int .i64 (m 1), .int .i64 (m 2)]) (by simp [results, Try.results97, go_sem]) rfl ⟨rfl, by (repeat (first | exact Ext.refl _ | assumption | (with_reducible refine Ext.alloc ?_ _) | (with_reducible refine Ext.drew ?_) | (with_reducible refine Ext.drewN ?_ _) | (refine Ext.trans ?_ (by assumption))))⟩
  · rw [show ((1 : Nat) : Int) = 1 from rfl]
    go_enter Try.func97, Try.ntmps97
    go_wp2
    exact bodyPost_ret (v := .agg #[.int .i64 (m 4), .int .i64 (m 5), .int .i64 (m 6)]) (by simp [results, Try.results97, go_sem]) rfl ⟨rfl, by (repeat (first | exact Ext.refl _ | assumption | (with_reducible refine Ext.alloc ?_ _) | (with_reducible refine Ext.drew ?_) | (with_reducible refine Ext.drewN ?_ _) | (refine Ext.trans ?_ (by assumption))))⟩
  · rw [show ((2 : Nat) : Int) = 2 from rfl]
    go_enter Try.func97, Try.ntmps97
    go_wp2
    exact bodyPost_ret (v := .agg #[.int .i64 (m 8), .int .i64 (m 9), .int .i64 (m 10)]) (by simp [results, Try.results97, go_sem]) rfl ⟨rfl, by (repeat (first | exact Ext.refl _ | assumption | (with_reducible refine Ext.alloc ?_ _) | (with_reducible refine Ext.drew ?_) | (with_reducible refine Ext.drewN ?_ _) | (refine Ext.trans ?_ (by assumption))))⟩
set_option maxRecDepth 20000 in
set_option maxHeartbeats 1600000 in
theorem column_any (m : Nat → Int) (k : Nat) (w : World) (hk : k < 4) : Calls Try.prog 119 #[.agg #[.int .i64 (m 0), .int .i64 (m 1), .int .i64 (m 2), .int .i64 (m 3), .int .i64 (m 4), .int .i64 (m 5), .int .i64 (m 6), .int .i64 (m 7), .int .i64 (m 8), .int .i64 (m 9), .int .i64 (m 10), .int .i64 (m 11)], .int .i64 (k : Int)] w (RetV0 w (m k) (m (4 + k)) (m (8 + k))) := by
  obtain rfl | rfl | rfl | rfl : k = 0 ∨ k = 1 ∨ k = 2 ∨ k = 3 := by omega
  · rw [show ((0 : Nat) : Int) = 0 from rfl]
    go_enter Try.func119, Try.ntmps119
    go_wp2
    go_region
    all_goals go_wp2
    all_goals exact bodyPost_ret (v := .agg #[.int .i64 (m 0), .int .i64 (m 4), .int .i64 (m 8)]) (by simp [results, Try.results119, go_sem]) rfl ⟨rfl, by (repeat (first | exact Ext.refl _ | assumption | (with_reducible refine Ext.alloc ?_ _) | (with_reducible refine Ext.drew ?_) | (with_reducible refine Ext.drewN ?_ _) | (refine Ext.trans ?_ (by assumption))))⟩
  · rw [show ((1 : Nat) : Int) = 1 from rfl]
    go_enter Try.func119, Try.ntmps119
    go_wp2
    go_region
    all_goals go_wp2
    all_goals exact bodyPost_ret (v := .agg #[.int .i64 (m 1), .int .i64 (m 5), .int .i64 (m 9)]) (by simp [results, Try.results119, go_sem]) rfl ⟨rfl, by (repeat (first | exact Ext.refl _ | assumption | (with_reducible refine Ext.alloc ?_ _) | (with_reducible refine Ext.drew ?_) | (with_reducible refine Ext.drewN ?_ _) | (refine Ext.trans ?_ (by assumption))))⟩
  · rw [show ((2 : Nat) : Int) = 2 from rfl]
    go_enter Try.func119, Try.ntmps119
    go_wp2
    go_region
    all_goals go_wp2
    all_goals exact bodyPost_ret (v := .agg #[.int .i64 (m 2), .int .i64 (m 6), .int .i64 (m 10)]) (by simp [results, Try.results119, go_sem]) rfl ⟨rfl, by (repeat (first | exact Ext.refl _ | assumption | (with_reducible refine Ext.alloc ?_ _) | (with_reducible refine Ext.drew ?_) | (with_reducible refine Ext.drewN ?_ _) | (refine Ext.trans ?_ (by assumption))))⟩
  · rw [show ((3 : Nat) : Int) = 3 from rfl]
    go_enter Try.func119, Try.ntmps119
    go_wp2
    go_region
    all_goals go_wp2
    all_goals exact bodyPost_ret (v := .agg #[.int .i64 (m 3), .int .i64 (m 7), .int .i64 (m 11)]) (by simp [results, Try.results119, go_sem]) rfl ⟨rfl, by (repeat (first | exact Ext.refl _ | assumption | (with_reducible refine Ext.alloc ?_ _) | (with_reducible refine Ext.drew ?_) | (with_reducible refine Ext.drewN ?_ _) | (refine Ext.trans ?_ (by assumption))))⟩
end Go.Proofs.Ytmgckodihnmjoaa
