/-
  The package vec: the functions that are handed to each, walked. Conditions: what they hold lies in memory.
-/
import Derived.Test.YtmgckodihnmjoaaVec2
import Derived.RegionTactic
import Derived.Deep.RegionWith
set_option linter.unusedVariables false
set_option linter.unusedSimpArgs false
namespace Go.Proofs.Ytmgckodihnmjoaa
open Go.RowKit

def addvE (f : Nat → Nat → Int) (n : Nat) : Int := if vecsB f n then e3 (addE (colL f 0 n)) (addE (colL f 1 n)) (addE (colL f 2 n)) else 1
def addvR (f : Nat → Nat → Int) (n k : Nat) : Int := if vecsB f n then r3 (addE (colL f 0 n)) (addE (colL f 1 n)) (addE (colL f 2 n)) (addR (colL f k n)) else 0
set_option maxHeartbeats 800000 in
theorem addc_any (pl : Addr) (A : Option Addr) (c n : Nat) (f : Nat → Nat → Int) (k : Nat) (w : World) (hp : w.cell? pl = some (.slice A n c)) (h : RdM 3 w A n f) (hn : n ≤ 1000000) (hk : k < 3) :
    Calls Try.prog 78 #[.int .i64 (k : Int), .pointer (some pl)] w fun e w' => e = .returned (.tuple #[.int .i64 (addR (colL f k n)), .int .i64 (addE (colL f k n))]) ∧ Ext w w' := by
  have H := Lib.hid h; clear h
  have hl := Lib.hid (colL_len f k n)
  go_enter Try.func78, Try.ntmps78
  go_wp2_with (first
    | (go_at_call 80; (with_reducible refine (places_any _ _ _ _ _ _ H.out hn hk).mono ?_); rintro e w1 ⟨v1, rfl, ho1, hx1⟩; obtain ⟨A1, c1, rfl, hr1, _⟩ := ho1.read)
    | (go_at_call 79; (with_reducible refine (add_any _ _ _ _ hr1).mono ?_); rintro e w2 ⟨rfl, rfl⟩))
  go_ret2
  exact ⟨rfl, hx1⟩
theorem right_lit1' (x : Int) (w : World) (t n : Nat) (hn : n = w.heap.size) : Calls Try.prog 85 #[.slice (some ⟨n, 0, none⟩) 1 1] (w.alloc (.cells #[.int .i64 x] t)) fun e w' => e = .returned (.bool (inB x)) ∧ w.alloc (.cells #[.int .i64 x] t) = w' := by
  have h := right_any _ 1 [x] _ (rdK_lit .i64 w [x] t (0, 0) (by simp) n hn)
  rw [right_one] at h
  exact h
/-- A difference's number, and error. -/
def subR (a b : Int) : Int := outR (a - b)
def subE (a b : Int) : Int := outE (a - b)
set_option maxHeartbeats 800000 in
theorem subc_any (p q : Nat) (a b : Nat → Int) (k : Nat) (w : World) (ha : w.cell? ⟨p, k, none⟩ = some (.int .i64 (a k))) (hb : w.cell? ⟨q, k, none⟩ = some (.int .i64 (b k))) (hk : k < 3) (h1 : inB (a k) = true) (h2 : inB (b k) = true) :
    Calls Try.prog 84 #[.int .i64 (k : Int), .pointer (some ⟨p, 0, none⟩), .pointer (some ⟨q, 0, none⟩)] w fun e w' => e = .returned (.tuple #[.int .i64 (subR (a k) (b k)), .int .i64 (subE (a k) (b k))]) ∧ Ext w w' := by
  obtain ⟨h3, h4⟩ := (inB_iff _).1 h1
  obtain ⟨h5, h6⟩ := (inB_iff _).1 h2
  clear h1 h2
  have hk0 : (0 : Int) ≤ (k : Int) := by omega
  have hk1 : (k : Int) < 3 := by omega
  have hw : IntKind.i64.wrap (a k - b k) = a k - b k := IntWalk.i64_in _ (by omega)
  cases hi : inB (a k - b k)
  · have HR := Lib.hid (show subR (a k) (b k) = 0 from outR_f hi)
    have HE := Lib.hid (show subE (a k) (b k) = 6 from outE_f hi)
    go_enter Try.func84, Try.ntmps84
    go_wp2
    (refine wp_region_quiet_lit (by kernel_rfl) (by kernel_rfl) ?_; (iterate 8 (any_goals (first | go_big_quiet_step (fail) | quiet_step (fail)))); all_goals (refine wpQuiet_nil ?_; intro _ hw'; obtain ⟨nq, hw''⟩ := hw'; subst hw''))
    go_wp2_with (go_at_call 85; (with_reducible refine (right_lit1' _ _ _ _ (by simp)).mono ?_); rintro e w2 ⟨rfl, rfl⟩; rw [hi])
    go_ret2
    exact ⟨by rw [HR.out, HE.out]; rfl, by (repeat (first | exact Ext.refl _ | assumption | (with_reducible refine Ext.alloc ?_ _) | (with_reducible refine Ext.drew ?_) | (with_reducible refine Ext.drewN ?_ _) | (refine Ext.trans ?_ (by assumption))))⟩
  · have HR := Lib.hid (show subR (a k) (b k) = a k - b k from outR_t hi)
    have HE := Lib.hid (show subE (a k) (b k) = 0 from outE_t hi)
    go_enter Try.func84, Try.ntmps84
    go_wp2
    (refine wp_region_quiet_lit (by kernel_rfl) (by kernel_rfl) ?_; (iterate 8 (any_goals (first | go_big_quiet_step (fail) | quiet_step (fail)))); all_goals (refine wpQuiet_nil ?_; intro _ hw'; obtain ⟨nq, hw''⟩ := hw'; subst hw''))
    go_wp2_with (go_at_call 85; (with_reducible refine (right_lit1' _ _ _ _ (by simp)).mono ?_); rintro e w2 ⟨rfl, rfl⟩; rw [hi])
    go_ret2
    exact ⟨by rw [HR.out, HE.out]; rfl, by (repeat (first | exact Ext.refl _ | assumption | (with_reducible refine Ext.alloc ?_ _) | (with_reducible refine Ext.drew ?_) | (with_reducible refine Ext.drewN ?_ _) | (refine Ext.trans ?_ (by assumption))))⟩
set_option maxHeartbeats 800000 in
theorem scalec_any (p : Nat) (q : Addr) (a : Nat → Int) (m : Int) (k : Nat) (w : World) (ha : w.cell? ⟨p, k, none⟩ = some (.int .i64 (a k))) (hb : w.cell? q = some (.int .i64 m)) (hk : k < 3) :
    Calls Try.prog 89 #[.int .i64 (k : Int), .pointer (some ⟨p, 0, none⟩), .pointer (some q)] w fun e w' => e = .returned (.tuple #[.int .i64 (mulR (a k) m), .int .i64 (mulE (a k) m)]) ∧ Ext w w' := by
  have hk0 : (0 : Int) ≤ (k : Int) := by omega
  have hk1 : (k : Int) < 3 := by omega
  go_enter Try.func89, Try.ntmps89
  go_wp2
  go_region_with (go_at_call 82; (refine (mul_any _ _ _).mono ?_); rintro e w2 ⟨rfl, hx2⟩)
  all_goals go_wp2
  all_goals go_ret2
  all_goals exact ⟨rfl, by (repeat (first | exact Ext.refl _ | assumption | (with_reducible refine Ext.alloc ?_ _) | (with_reducible refine Ext.drew ?_) | (with_reducible refine Ext.drewN ?_ _) | (refine Ext.trans ?_ (by assumption))))⟩
set_option maxHeartbeats 800000 in
theorem dotc_any (p q : Nat) (a b : Nat → Int) (k : Nat) (w : World) (ha : w.cell? ⟨p, k, none⟩ = some (.int .i64 (a k))) (hb : w.cell? ⟨q, k, none⟩ = some (.int .i64 (b k))) (hk : k < 3) :
    Calls Try.prog 81 #[.int .i64 (k : Int), .pointer (some ⟨p, 0, none⟩), .pointer (some ⟨q, 0, none⟩)] w fun e w' => e = .returned (.tuple #[.int .i64 (mulR (a k) (b k)), .int .i64 (mulE (a k) (b k))]) ∧ Ext w w' := by
  have hk0 : (0 : Int) ≤ (k : Int) := by omega
  have hk1 : (k : Int) < 3 := by omega
  go_enter Try.func81, Try.ntmps81
  go_wp2
  go_region_with (go_at_call 82; (refine (mul_any _ _ _).mono ?_); rintro e w2 ⟨rfl, hx2⟩)
  all_goals go_wp2
  all_goals go_ret2
  all_goals exact ⟨rfl, by (repeat (first | exact Ext.refl _ | assumption | (with_reducible refine Ext.alloc ?_ _) | (with_reducible refine Ext.drew ?_) | (with_reducible refine Ext.drewN ?_ _) | (refine Ext.trans ?_ (by assumption))))⟩
/-- The least of the first ones. -/
def minTo (xs : List Int) : Nat → Int
  | 0 => 0
  | k + 1 => if k = 0 then nth xs 0 else (if nth xs k < minTo xs k then nth xs k else minTo xs k)
def maxTo (xs : List Int) : Nat → Int
  | 0 => 0
  | k + 1 => if k = 0 then nth xs 0 else (if maxTo xs k < nth xs k then nth xs k else maxTo xs k)
set_option maxHeartbeats 800000 in
theorem smin_any (A : Option Addr) (c : Nat) (xs : List Int) (w : World) (h : RdI w A xs) (h0 : 0 < xs.length) : Calls Try.prog 91 #[.slice A xs.length c] w fun e w' => e = .returned (.int .i64 (minTo xs xs.length)) ∧ w = w' := by
  obtain ⟨hlen, hr⟩ := h
  obtain ⟨ad, rfl, hc0⟩ := hr 0 h0
  rw [show ad.add 0 = ad by simp [Addr.add]] at hc0
  have HR := Lib.hid hr; clear hr
  have hm1 : Hid (minTo xs 1 = nth xs 0) := by show _ = _; simp [minTo]
  go_enter Try.func91, Try.ntmps91
  go_wp2
  go_loop [3, 4] (fun m i => ∃ k : Nat, 1 ≤ k ∧ k ≤ xs.length ∧ i = .int .i64 k ∧ m = .int .i64 (minTo xs k)) (fun _ i => xs.length - (intOf i).toNat)
  case atStart => exact ⟨1, by omega, by omega, rfl, by rw [hm1.out]⟩
  case round =>
    obtain ⟨k, hk1, hk, rfl, rfl⟩ := hrel
    by_cases hlt : k < xs.length
    · obtain ⟨ad', e, hc⟩ := HR.out k hlt
      injection e with e; subst e
      have hs : Hid (minTo xs (k + 1) = (if nth xs k < minTo xs k then nth xs k else minTo xs k)) := by show _ = _; simp only [minTo]; rw [if_neg (by omega)]
      go_wp2
      go_round
      case rel => exact ⟨k + 1, by omega, by omega, by go_num, by rw [hs.out]⟩
      case measure => simp [intOf]; omega
    · obtain rfl : xs.length = k := by omega
      go_wp2
      go_ret
      exact ⟨ret_eq rfl, rfl⟩
set_option maxHeartbeats 800000 in
theorem smax_any (A : Option Addr) (c : Nat) (xs : List Int) (w : World) (h : RdI w A xs) (h0 : 0 < xs.length) : Calls Try.prog 93 #[.slice A xs.length c] w fun e w' => e = .returned (.int .i64 (maxTo xs xs.length)) ∧ w = w' := by
  obtain ⟨hlen, hr⟩ := h
  obtain ⟨ad, rfl, hc0⟩ := hr 0 h0
  rw [show ad.add 0 = ad by simp [Addr.add]] at hc0
  have HR := Lib.hid hr; clear hr
  have hm1 : Hid (maxTo xs 1 = nth xs 0) := by show _ = _; simp [maxTo]
  go_enter Try.func93, Try.ntmps93
  go_wp2
  go_loop [3, 4] (fun m i => ∃ k : Nat, 1 ≤ k ∧ k ≤ xs.length ∧ i = .int .i64 k ∧ m = .int .i64 (maxTo xs k)) (fun _ i => xs.length - (intOf i).toNat)
  case atStart => exact ⟨1, by omega, by omega, rfl, by rw [hm1.out]⟩
  case round =>
    obtain ⟨k, hk1, hk, rfl, rfl⟩ := hrel
    by_cases hlt : k < xs.length
    · obtain ⟨ad', e, hc⟩ := HR.out k hlt
      injection e with e; subst e
      have hs : Hid (maxTo xs (k + 1) = (if maxTo xs k < nth xs k then nth xs k else maxTo xs k)) := by show _ = _; simp only [maxTo]; rw [if_neg (by omega)]
      go_wp2
      go_round
      case rel => exact ⟨k + 1, by omega, by omega, by go_num, by rw [hs.out]⟩
      case measure => simp [intOf]; omega
    · obtain rfl : xs.length = k := by omega
      go_wp2
      go_ret
      exact ⟨ret_eq rfl, rfl⟩
set_option maxHeartbeats 800000 in
theorem leastc_any (pl : Addr) (A : Option Addr) (c n : Nat) (f : Nat → Nat → Int) (k : Nat) (w : World) (hp : w.cell? pl = some (.slice A n c)) (h : RdM 3 w A n f) (hn : n ≤ 1000000) (h0 : 0 < n) (hk : k < 3) :
    Calls Try.prog 90 #[.int .i64 (k : Int), .pointer (some pl)] w fun e w' => e = .returned (.tuple #[.int .i64 (minTo (colL f k n) n), .int .i64 0]) ∧ Ext w w' := by
  have H := Lib.hid h; clear h
  have hl := colL_len f k n
  have hl2 := Lib.hid (show 0 < (colL f k n).length by rw [hl]; exact h0)
  have HL := Lib.hid hl; clear hl
  go_enter Try.func90, Try.ntmps90
  go_wp2_with (first
    | (go_at_call 80; (with_reducible refine (places_any _ _ _ _ _ _ H.out hn hk).mono ?_); rintro e w1 ⟨v1, rfl, ho1, hx1⟩; obtain ⟨A1, c1, rfl, hr1, _⟩ := ho1.read)
    | (go_at_call 91; (with_reducible refine (smin_any _ _ _ _ hr1 hl2.out).mono ?_); rintro e w2 ⟨rfl, rfl⟩; rw [HL.out]))
  go_ret2
  exact ⟨rfl, hx1⟩
set_option maxHeartbeats 800000 in
theorem greatestc_any (pl : Addr) (A : Option Addr) (c n : Nat) (f : Nat → Nat → Int) (k : Nat) (w : World) (hp : w.cell? pl = some (.slice A n c)) (h : RdM 3 w A n f) (hn : n ≤ 1000000) (h0 : 0 < n) (hk : k < 3) :
    Calls Try.prog 92 #[.int .i64 (k : Int), .pointer (some pl)] w fun e w' => e = .returned (.tuple #[.int .i64 (maxTo (colL f k n) n), .int .i64 0]) ∧ Ext w w' := by
  have H := Lib.hid h; clear h
  have hl := colL_len f k n
  have hl2 := Lib.hid (show 0 < (colL f k n).length by rw [hl]; exact h0)
  have HL := Lib.hid hl; clear hl
  go_enter Try.func92, Try.ntmps92
  go_wp2_with (first
    | (go_at_call 80; (with_reducible refine (places_any _ _ _ _ _ _ H.out hn hk).mono ?_); rintro e w1 ⟨v1, rfl, ho1, hx1⟩; obtain ⟨A1, c1, rfl, hr1, _⟩ := ho1.read)
    | (go_at_call 93; (with_reducible refine (smax_any _ _ _ _ hr1 hl2.out).mono ?_); rintro e w2 ⟨rfl, rfl⟩; rw [HL.out]))
  go_ret2
  exact ⟨rfl, hx1⟩
end Go.Proofs.Ytmgckodihnmjoaa
