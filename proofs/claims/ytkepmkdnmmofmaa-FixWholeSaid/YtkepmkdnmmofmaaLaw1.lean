/-
  The laws of layer 1, walked. Conditions: none but that a slice that is read lies in memory.
-/
import Derived.Test.YtkepmkdnmmofmaaRef1
set_option linter.unusedVariables false
set_option linter.unusedSimpArgs false
namespace Go.Proofs.Ytkepmkdnmmofmaa
open Go.RowKit

theorem right_lit1 (a : Int) (w : World) (t n : Nat) (hn : n = w.heap.size) : Calls Try.prog 33 #[.slice (some ⟨n, 0, none⟩) 1 1] (w.alloc (.cells #[.int .i64 a] t)) fun e w' => e = .returned (.bool (inB a)) ∧ w.alloc (.cells #[.int .i64 a] t) = w' := by
  subst hn
  have h := right_any (some ⟨w.heap.size, 0, none⟩) 1 [a] _ (rdK_new1 .i64 w a t)
  rw [right_one] at h
  exact h
theorem rright_lit1 (a : Int) (w : World) (t n : Nat) (hn : n = w.heap.size) : Calls Try.prog 34 #[.slice (some ⟨n, 0, none⟩) 1 1] (w.alloc (.cells #[.int .i64 a] t)) fun e w' => e = .returned (.bool (inB a)) ∧ w.alloc (.cells #[.int .i64 a] t) = w' := by
  subst hn
  have h := rright_any (some ⟨w.heap.size, 0, none⟩) 1 [a] _ (rdK_new1 .i64 w a t)
  rw [right_one] at h
  exact h
theorem right_lit2 (a b : Int) (w : World) (t n : Nat) (hn : n = w.heap.size) : Calls Try.prog 33 #[.slice (some ⟨n, 0, none⟩) 2 2] (w.alloc (.cells #[.int .i64 a, .int .i64 b] t)) fun e w' => e = .returned (.bool (rightL [a, b])) ∧ w.alloc (.cells #[.int .i64 a, .int .i64 b] t) = w' := by
  subst hn
  exact right_any (some ⟨w.heap.size, 0, none⟩) 2 [a, b] _ (rdK_new2 .i64 w a b t)
theorem add_lit2 (a b : Int) (w : World) (t n : Nat) (hn : n = w.heap.size) : Calls Try.prog 31 #[.slice (some ⟨n, 0, none⟩) 2 2] (w.alloc (.cells #[.int .i64 a, .int .i64 b] t)) fun e w' => e = .returned (.tuple #[.int .i64 (addR [a, b]), .int .i64 (addE [a, b])]) ∧ w.alloc (.cells #[.int .i64 a, .int .i64 b] t) = w' := by
  subst hn
  exact add_any (some ⟨w.heap.size, 0, none⟩) 2 [a, b] _ (rdK_new2 .i64 w a b t)

set_option maxHeartbeats 800000 in
theorem alive1_any (w : World) : Calls Try.prog 30 #[] w fun e w' => e = .returned (.bool true) ∧ Ext w w' := by
  have h1 : mulR 98304 (-65537) = -98306 := by decide
  have h2 : mulE 98304 (-65537) = 0 := by decide
  have h3 : divR (-65536) 131073 = -32768 := by decide
  have h4 : divE (-65536) 131073 = 0 := by decide
  have h5 : addE [2147483647, 1] = 6 := by decide
  have h6 : rightL [5, -5] = true := by decide
  have h7 : inB 2147483648 = false := by decide
  go_enter Try.func30, Try.ntmps30
  go_wp2_with (first | (go_at_call 28; (with_reducible refine (mul_any _ _ _).mono ?_); rintro e w' ⟨rfl, hx⟩) | (go_at_call 29; (with_reducible refine (div_any _ _ _).mono ?_); rintro e w' ⟨rfl, hx⟩) | (go_at_call 31; (with_reducible refine (add_lit2 _ _ _ _ _ (by simp)).mono ?_); rintro e w' ⟨rfl, rfl⟩) | (go_at_call 35; (with_reducible refine (floor_any _ _).mono ?_); rintro e w' ⟨rfl, rfl⟩) | (go_at_call 33; (with_reducible refine (right_lit2 _ _ _ _ _ (by simp)).mono ?_); rintro e w' ⟨rfl, rfl⟩) | (go_at_call 33; (with_reducible refine (right_lit1 _ _ _ _ (by simp)).mono ?_); rintro e w' ⟨rfl, rfl⟩))
  go_ret
  exact ⟨ret_eq rfl, by (repeat (first | exact Ext.refl _ | assumption | refine Ext.alloc ?_ _ | refine Ext.drew ?_ | refine Ext.drewN ?_ _ | refine Ext.trans ?_ (by assumption)))⟩

theorem of_floor {n : Int} (h : ofE n = 0) : ofR n / 65536 = n := by
  unfold ofE ofR at *
  split at h
  · rename_i h1; rw [if_pos h1]
    unfold outE outR at *
    split at h
    · rename_i h2; rw [if_pos h2]; omega
    · omega
  · omega
set_option maxHeartbeats 800000 in
theorem whole_any (n : Int) (w : World) : Calls Try.prog 9 #[.int .i64 n] w fun e w' => e = .returned (.bool true) ∧ Ext w w' := by
  by_cases h : ofE n = 0
  · have hf := of_floor h
    go_enter Try.func9, Try.ntmps9
    go_wp2_with (first | (go_at_call 40; (with_reducible refine (of_any _ _).mono ?_); rintro e w' ⟨rfl, rfl⟩) | (go_at_call 41; (with_reducible refine (rof_any _ _).mono ?_); rintro e w' ⟨rfl, rfl⟩) | (go_at_call 35; (with_reducible refine (floor_any _ _).mono ?_); rintro e w' ⟨rfl, rfl⟩) | (go_at_call 30; (with_reducible refine (alive1_any _).mono ?_); rintro e w' ⟨rfl, hx⟩))
    go_ret
    exact ⟨ret_eq rfl, by (repeat (first | exact Ext.refl _ | assumption | refine Ext.alloc ?_ _ | refine Ext.drew ?_ | refine Ext.drewN ?_ _ | refine Ext.trans ?_ (by assumption)))⟩
  · go_enter Try.func9, Try.ntmps9
    go_wp2_with (first | (go_at_call 40; (with_reducible refine (of_any _ _).mono ?_); rintro e w' ⟨rfl, rfl⟩) | (go_at_call 41; (with_reducible refine (rof_any _ _).mono ?_); rintro e w' ⟨rfl, rfl⟩) | (go_at_call 35; (with_reducible refine (floor_any _ _).mono ?_); rintro e w' ⟨rfl, rfl⟩) | (go_at_call 30; (with_reducible refine (alive1_any _).mono ?_); rintro e w' ⟨rfl, hx⟩))
    go_ret
    exact ⟨ret_eq rfl, by (repeat (first | exact Ext.refl _ | assumption | refine Ext.alloc ?_ _ | refine Ext.drew ?_ | refine Ext.drewN ?_ _ | refine Ext.trans ?_ (by assumption)))⟩

set_option maxHeartbeats 800000 in
theorem tells1_any (A : Option Addr) (c : Nat) (xs : List Int) (a b : Int) (w : World) (h : RdI w A xs) (ha : -9223372036854775808 ≤ a) (ha' : a ≤ 9223372036854775807) :
    Calls Try.prog 8 #[.slice A xs.length c, .int .i64 a, .int .i64 b] w fun e w' => e = .returned (.bool true) ∧ Ext w w' := by
  have H := Lib.hid h
  clear h
  by_cases hl : 1500 < xs.length
  · go_enter Try.func8, Try.ntmps8
    go_wp2_with (first | (go_at_call 30; (with_reducible refine (alive1_any _).mono ?_); rintro e w' ⟨rfl, hx⟩))
    go_ret
    exact ⟨ret_eq rfl, by (repeat (first | exact Ext.refl _ | assumption | refine Ext.alloc ?_ _ | refine Ext.drew ?_ | refine Ext.drewN ?_ _ | refine Ext.trans ?_ (by assumption)))⟩
  · cases hi : inB a
    · have hnR : negR a = 0 := by simp [negR, hi]
      have hnE : negE a = 1 := by simp [negE, hi]
      go_enter Try.func8, Try.ntmps8
      go_wp2_with (first | (go_at_call 31; (with_reducible refine (add_any _ _ _ _ (H.out.ext (by (repeat (first | exact Ext.refl _ | assumption | refine Ext.alloc ?_ _ | refine Ext.drew ?_ | refine Ext.drewN ?_ _ | refine Ext.trans ?_ (by assumption)))))).mono ?_); rintro e w' ⟨rfl, rfl⟩) | (go_at_call 32; (with_reducible refine (radd_any _ _ _ _ (H.out.ext (by (repeat (first | exact Ext.refl _ | assumption | refine Ext.alloc ?_ _ | refine Ext.drew ?_ | refine Ext.drewN ?_ _ | refine Ext.trans ?_ (by assumption)))))).mono ?_); rintro e w' ⟨rfl, rfl⟩) | (go_at_call 33; (with_reducible refine (right_any _ _ _ _ (H.out.ext (by (repeat (first | exact Ext.refl _ | assumption | refine Ext.alloc ?_ _ | refine Ext.drew ?_ | refine Ext.drewN ?_ _ | refine Ext.trans ?_ (by assumption)))))).mono ?_); rintro e w' ⟨rfl, rfl⟩) | (go_at_call 34; (with_reducible refine (rright_lit1 _ _ _ _ (by simp)).mono ?_); rintro e w' ⟨rfl, rfl⟩) | (go_at_call 34; (with_reducible refine (rright_any _ _ _ _ (H.out.ext (by (repeat (first | exact Ext.refl _ | assumption | refine Ext.alloc ?_ _ | refine Ext.drew ?_ | refine Ext.drewN ?_ _ | refine Ext.trans ?_ (by assumption)))))).mono ?_); rintro e w' ⟨rfl, rfl⟩) | (go_at_call 35; (with_reducible refine (floor_any _ _).mono ?_); rintro e w' ⟨rfl, rfl⟩) | (go_at_call 36; (with_reducible refine (rfloor_any _ _ ha ha').mono ?_); rintro e w' ⟨rfl, rfl⟩) | (go_at_call 28; (with_reducible refine (mul_any _ _ _).mono ?_); rintro e w' ⟨rfl, hx⟩) | (go_at_call 37; (with_reducible refine (rmul_any _ _ _).mono ?_); rintro e w' ⟨rfl, hx⟩) | (go_at_call 29; (with_reducible refine (div_any _ _ _).mono ?_); rintro e w' ⟨rfl, hx⟩) | (go_at_call 38; (with_reducible refine (rdiv_any _ _ _).mono ?_); rintro e w' ⟨rfl, hx⟩) | (go_at_call 39; (with_reducible refine (neg_any _ _).mono ?_); rintro e w' ⟨rfl, hx⟩) | (go_at_call 30; (with_reducible refine (alive1_any _).mono ?_); rintro e w' ⟨rfl, hx⟩))
      go_ret
      exact ⟨ret_eq rfl, by (repeat (first | exact Ext.refl _ | assumption | refine Ext.alloc ?_ _ | refine Ext.drew ?_ | refine Ext.drewN ?_ _ | refine Ext.trans ?_ (by assumption)))⟩
    · by_cases hm : a = -2147483648
      · subst hm
        have hnR : negR (-2147483648) = 0 := by decide
        have hnE : negE (-2147483648) = 6 := by decide
        go_enter Try.func8, Try.ntmps8
        go_wp2_with (first | (go_at_call 31; (with_reducible refine (add_any _ _ _ _ (H.out.ext (by (repeat (first | exact Ext.refl _ | assumption | refine Ext.alloc ?_ _ | refine Ext.drew ?_ | refine Ext.drewN ?_ _ | refine Ext.trans ?_ (by assumption)))))).mono ?_); rintro e w' ⟨rfl, rfl⟩) | (go_at_call 32; (with_reducible refine (radd_any _ _ _ _ (H.out.ext (by (repeat (first | exact Ext.refl _ | assumption | refine Ext.alloc ?_ _ | refine Ext.drew ?_ | refine Ext.drewN ?_ _ | refine Ext.trans ?_ (by assumption)))))).mono ?_); rintro e w' ⟨rfl, rfl⟩) | (go_at_call 33; (with_reducible refine (right_any _ _ _ _ (H.out.ext (by (repeat (first | exact Ext.refl _ | assumption | refine Ext.alloc ?_ _ | refine Ext.drew ?_ | refine Ext.drewN ?_ _ | refine Ext.trans ?_ (by assumption)))))).mono ?_); rintro e w' ⟨rfl, rfl⟩) | (go_at_call 34; (with_reducible refine (rright_lit1 _ _ _ _ (by simp)).mono ?_); rintro e w' ⟨rfl, rfl⟩) | (go_at_call 34; (with_reducible refine (rright_any _ _ _ _ (H.out.ext (by (repeat (first | exact Ext.refl _ | assumption | refine Ext.alloc ?_ _ | refine Ext.drew ?_ | refine Ext.drewN ?_ _ | refine Ext.trans ?_ (by assumption)))))).mono ?_); rintro e w' ⟨rfl, rfl⟩) | (go_at_call 35; (with_reducible refine (floor_any _ _).mono ?_); rintro e w' ⟨rfl, rfl⟩) | (go_at_call 36; (with_reducible refine (rfloor_any _ _ ha ha').mono ?_); rintro e w' ⟨rfl, rfl⟩) | (go_at_call 28; (with_reducible refine (mul_any _ _ _).mono ?_); rintro e w' ⟨rfl, hx⟩) | (go_at_call 37; (with_reducible refine (rmul_any _ _ _).mono ?_); rintro e w' ⟨rfl, hx⟩) | (go_at_call 29; (with_reducible refine (div_any _ _ _).mono ?_); rintro e w' ⟨rfl, hx⟩) | (go_at_call 38; (with_reducible refine (rdiv_any _ _ _).mono ?_); rintro e w' ⟨rfl, hx⟩) | (go_at_call 39; (with_reducible refine (neg_any _ _).mono ?_); rintro e w' ⟨rfl, hx⟩) | (go_at_call 30; (with_reducible refine (alive1_any _).mono ?_); rintro e w' ⟨rfl, hx⟩))
        go_ret
        exact ⟨ret_eq rfl, by (repeat (first | exact Ext.refl _ | assumption | refine Ext.alloc ?_ _ | refine Ext.drew ?_ | refine Ext.drewN ?_ _ | refine Ext.trans ?_ (by assumption)))⟩
      · have hb := (inB_iff a).1 hi
        have hb' : inB (-a) = true := inB_t (by omega) (by omega)
        have hnR : negR a = -a := by simp [negR, hi, outR_t hb']
        have hnE : negE a = 0 := by simp [negE, hi, outE_t hb']
        obtain ⟨hb1, hb2⟩ := hb
        go_enter Try.func8, Try.ntmps8
        go_wp2_with (first | (go_at_call 31; (with_reducible refine (add_any _ _ _ _ (H.out.ext (by (repeat (first | exact Ext.refl _ | assumption | refine Ext.alloc ?_ _ | refine Ext.drew ?_ | refine Ext.drewN ?_ _ | refine Ext.trans ?_ (by assumption)))))).mono ?_); rintro e w' ⟨rfl, rfl⟩) | (go_at_call 32; (with_reducible refine (radd_any _ _ _ _ (H.out.ext (by (repeat (first | exact Ext.refl _ | assumption | refine Ext.alloc ?_ _ | refine Ext.drew ?_ | refine Ext.drewN ?_ _ | refine Ext.trans ?_ (by assumption)))))).mono ?_); rintro e w' ⟨rfl, rfl⟩) | (go_at_call 33; (with_reducible refine (right_any _ _ _ _ (H.out.ext (by (repeat (first | exact Ext.refl _ | assumption | refine Ext.alloc ?_ _ | refine Ext.drew ?_ | refine Ext.drewN ?_ _ | refine Ext.trans ?_ (by assumption)))))).mono ?_); rintro e w' ⟨rfl, rfl⟩) | (go_at_call 34; (with_reducible refine (rright_lit1 _ _ _ _ (by simp)).mono ?_); rintro e w' ⟨rfl, rfl⟩) | (go_at_call 34; (with_reducible refine (rright_any _ _ _ _ (H.out.ext (by (repeat (first | exact Ext.refl _ | assumption | refine Ext.alloc ?_ _ | refine Ext.drew ?_ | refine Ext.drewN ?_ _ | refine Ext.trans ?_ (by assumption)))))).mono ?_); rintro e w' ⟨rfl, rfl⟩) | (go_at_call 35; (with_reducible refine (floor_any _ _).mono ?_); rintro e w' ⟨rfl, rfl⟩) | (go_at_call 36; (with_reducible refine (rfloor_any _ _ ha ha').mono ?_); rintro e w' ⟨rfl, rfl⟩) | (go_at_call 28; (with_reducible refine (mul_any _ _ _).mono ?_); rintro e w' ⟨rfl, hx⟩) | (go_at_call 37; (with_reducible refine (rmul_any _ _ _).mono ?_); rintro e w' ⟨rfl, hx⟩) | (go_at_call 29; (with_reducible refine (div_any _ _ _).mono ?_); rintro e w' ⟨rfl, hx⟩) | (go_at_call 38; (with_reducible refine (rdiv_any _ _ _).mono ?_); rintro e w' ⟨rfl, hx⟩) | (go_at_call 39; (with_reducible refine (neg_any _ _).mono ?_); rintro e w' ⟨rfl, hx⟩) | (go_at_call 30; (with_reducible refine (alive1_any _).mono ?_); rintro e w' ⟨rfl, hx⟩))
        go_ret
        exact ⟨ret_eq rfl, by (repeat (first | exact Ext.refl _ | assumption | refine Ext.alloc ?_ _ | refine Ext.drew ?_ | refine Ext.drewN ?_ _ | refine Ext.trans ?_ (by assumption)))⟩
end Go.Proofs.Ytkepmkdnmmofmaa
