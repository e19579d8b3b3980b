/-
  Numbers as few bytes: the writing and the reading of one, of the program and of its reference. Conditions: slices that are read lie in memory; they are bytes.
-/
import Derived.Test.YtkepmkdnmmofmaaStr
import Derived.Test.YtkepmkdnmmofmaaMem
set_option linter.unusedVariables false
set_option linter.unusedSimpArgs false
namespace Go.Proofs.Ytkepmkdnmmofmaa
open Go.RowKit

/-- A number's bytes. -/
def oneN (n : Nat) : List Int := if n < 128 then [(n : Int)] else (128 + n % 128 : Nat) :: oneN (n / 128)
termination_by n
decreasing_by omega
theorem oneN_small {n : Nat} (h : n < 128) : oneN n = [(n : Int)] := by rw [oneN, if_pos h]
theorem oneN_big {n : Nat} (h : 128 ≤ n) : oneN n = ((128 + n % 128 : Nat) : Int) :: oneN (n / 128) := by rw [oneN, if_neg (by omega)]
theorem oneN_bytes (n : Nat) : Bytes (oneN n) := by
  induction n using Nat.strongRecOn with
  | ind n ih =>
    by_cases h : n < 128
    · rw [oneN_small h]; intro x hx; simp at hx; omega
    · rw [oneN_big (by omega)]
      intro x hx
      rcases List.mem_cons.1 hx with rfl | hx
      · omega
      · exact ih _ (by omega) x hx
theorem oneN_length (n k : Nat) (h : n < 128 ^ (k + 1)) : (oneN n).length ≤ k + 1 := by
  induction k generalizing n with
  | zero => rw [oneN_small (by simpa using h)]; simp
  | succ k ih =>
    by_cases h1 : n < 128
    · rw [oneN_small h1]; simp
    · rw [oneN_big (by omega), List.length_cons]
      have := ih (n / 128) (by rw [Nat.pow_succ] at h; exact Nat.div_lt_of_lt_mul (by rw [Nat.mul_comm]; exact h))
      omega
theorem oneN_pos (n : Nat) : 0 < (oneN n).length := by
  by_cases h : n < 128
  · rw [oneN_small h]; simp
  · rw [oneN_big (by omega)]; simp
theorem or128 {n : Int} (h0 : 0 ≤ n) (h1 : n < 4611686018427387904) : (bits .or .i64 n 128) % 256 = 128 + n % 128 := by
  have h := (bits_nat .i64 62 (by decide) (fun m a b => by rw [IntKind.wrap_i64]; omega) n.toNat 128 (by omega) (by decide)).2
  rw [Int.toNat_of_nonneg h0] at h
  have e : (128 : Int) = ((128 : Nat) : Int) := rfl
  rw [e, h]
  have h2 : (n.toNat ||| 128) % 256 = 128 + n.toNat % 128 := by
    have h3 : (n.toNat ||| 128) % 2 ^ 8 = (n.toNat % 2 ^ 8) ||| (128 % 2 ^ 8) := Nat.or_mod_two_pow
    have h4 : ∀ m : Nat, m < 256 → m ||| 128 = 128 + m % 128 := by decide +kernel
    rw [show (256 : Nat) = 2 ^ 8 by decide, h3, show 128 % 2 ^ 8 = 128 by decide, h4 _ (Nat.mod_lt _ (by decide))]
    omega
  omega
/-- The value of the first groups; how many bytes go on. -/
def valTo (xs : List Int) : Nat → Nat
  | 0 => 0
  | k + 1 => valTo xs k + (nth xs k).toNat % 128 * 128 ^ k
def cntF (xs : List Int) : Nat → Nat
  | 0 => 0
  | f + 1 => if cntF xs f = f ∧ f < xs.length ∧ 128 ≤ nth xs f then f + 1 else cntF xs f
/-- How many bytes at the head are at least 128. -/
def cnt (xs : List Int) : Nat := cntF xs xs.length
theorem cntF_le (xs : List Int) (f : Nat) : cntF xs f ≤ f := by
  induction f with
  | zero => simp [cntF]
  | succ f ih => simp only [cntF]; split <;> omega
theorem cntF_mem (xs : List Int) (f : Nat) : ∀ i, i < cntF xs f → 128 ≤ nth xs i := by
  induction f with
  | zero => intro i hi; simp [cntF] at hi
  | succ f ih =>
    intro i hi
    simp only [cntF] at hi
    split at hi
    · rename_i h
      rcases Nat.lt_or_ge i f with h1 | h1
      · exact ih i (by omega)
      · obtain rfl : i = f := by omega
        exact h.2.2
    · exact ih i hi
theorem cntF_stop (xs : List Int) (f : Nat) (h : cntF xs f < f) (hl : f ≤ xs.length) : nth xs (cntF xs f) < 128 := by
  induction f with
  | zero => omega
  | succ f ih =>
    simp only [cntF] at h ⊢
    split
    · rename_i h1; rw [if_pos h1] at h; omega
    · rename_i h1
      rw [if_neg h1] at h
      rcases Nat.lt_or_ge (cntF xs f) f with h2 | h2
      · exact ih h2 (by omega)
      · have := cntF_le xs f
        have e : cntF xs f = f := by omega
        rw [e]
        by_cases h3 : 128 ≤ nth xs f
        · exact absurd ⟨e, by omega, h3⟩ h1
        · omega
theorem cnt_le (xs : List Int) : cnt xs ≤ xs.length := cntF_le xs xs.length
theorem cnt_mem (xs : List Int) : ∀ i, i < cnt xs → 128 ≤ nth xs i := cntF_mem xs xs.length
theorem cnt_stop (xs : List Int) (h : cnt xs < xs.length) : nth xs (cnt xs) < 128 := cntF_stop xs xs.length h (Nat.le_refl _)
theorem cnt_eq {xs : List Int} {k : Nat} (h : ∀ i, i < k → 128 ≤ nth xs i) (h1 : k < xs.length) (h2 : nth xs k < 128) : cnt xs = k := by
  rcases Nat.lt_trichotomy (cnt xs) k with h3 | h3 | h3
  · have := cnt_stop xs (by omega)
    have := h _ h3
    omega
  · exact h3
  · have := cnt_mem xs k h3
    omega
theorem cnt_all {xs : List Int} (h : ∀ i, i < xs.length → 128 ≤ nth xs i) : cnt xs = xs.length := by
  have := cnt_le xs
  rcases Nat.lt_or_ge (cnt xs) xs.length with h3 | h3
  · have := cnt_stop xs h3
    have := h _ h3
    omega
  · omega
theorem valTo_lt (xs : List Int) (k : Nat) : valTo xs k < 128 ^ k := by
  induction k with
  | zero => simp [valTo]
  | succ k ih =>
    simp only [valTo]
    have : (nth xs k).toNat % 128 ≤ 127 := by omega
    have h2 : (nth xs k).toNat % 128 * 128 ^ k ≤ 127 * 128 ^ k := Nat.mul_le_mul_right _ this
    rw [Nat.pow_succ]
    omega
theorem valTo_mono (xs : List Int) (j k : Nat) (h : j ≤ k) : valTo xs j ≤ valTo xs k := by
  induction k with
  | zero =>
    obtain rfl : j = 0 := by omega
    exact Nat.le_refl _
  | succ k ih =>
    rcases Nat.lt_or_ge j (k + 1) with h1 | h1
    · have := ih (by omega); simp only [valTo]; omega
    · obtain rfl : j = k + 1 := by omega
      exact Nat.le_refl _
/-- Whether a number comes, which one, of how many bytes. -/
def numOk (xs : List Int) : Bool := decide (cnt xs < xs.length) && decide (cnt xs ≤ 5) && decide (valTo xs (cnt xs + 1) ≤ 1099511627776) && !(decide (0 < cnt xs) && decide (nth xs (cnt xs) = 0))
def numV (xs : List Int) : Int := if numOk xs then (valTo xs (cnt xs + 1) : Int) else 0
def numS (xs : List Int) : Int := if numOk xs then ((cnt xs + 1 : Nat) : Int) else 0
theorem mask7 (x : Nat) (h : x < 256) : bits .and .u8 (x : Int) 127 = ((x % 128 : Nat) : Int) := by
  have h := (bits_nat .u8 8 (by decide) wraps_u8 x 127 h (by decide)).1
  rw [show x &&& 127 = x % 2 ^ 7 from Nat.and_two_pow_sub_one_eq_mod x 7] at h
  exact h
theorem or_grp (a b i : Nat) (ha : a < 128 ^ i) (hb : b < 128) (hi : i ≤ 6) : bits .or .i64 (a : Int) ((b : Int) * 2 ^ (7 * i)) = ((a + b * 128 ^ i : Nat) : Int) := by
  have hp : (128 : Nat) ^ i = 2 ^ (7 * i) := by rw [Nat.pow_mul]
  have hm : (128 : Nat) ^ i ≤ 128 ^ 6 := Nat.pow_le_pow_right (by decide) hi
  have hbm : b * 128 ^ i ≤ 127 * 128 ^ i := Nat.mul_le_mul_right _ (by omega)
  have hm2 : (128 : Nat) ^ 6 = 4398046511104 := by decide
  have h := (bits_nat .i64 62 (by decide) (fun m a b => by rw [IntKind.wrap_i64]; omega) a (b * 128 ^ i) (by omega) (by omega)).2
  have e : (b : Int) * 2 ^ (7 * i) = ((b * 128 ^ i : Nat) : Int) := by rw [hp]; push_cast; rfl
  rw [e, h, Nat.or_comm, Nat.add_comm, hp, Nat.mul_comm b]
  rw [hp] at ha
  rw [Nat.two_pow_add_eq_or_of_lt ha b]

set_option maxRecDepth 20000 in
set_option maxHeartbeats 800000 in
theorem one_any (n : Nat) : ∀ (w : World), n < 4611686018427387904 → Calls Try.prog 70 #[.int .i64 (n : Int)] w (RetOwn 5 .u8 w (oneN n)) := by
  induction n using Nat.strongRecOn with
  | ind n ih =>
    intro w hn
    by_cases h : n < 128
    · have he := Lib.hid (oneN_small h)
      have hm : (n : Int) % 256 = n := by omega
      go_enter Try.func70, Try.ntmps70
      go_wp2
      go_ret
      refine ⟨_, rfl, ?_, by (repeat (first | exact Ext.refl _ | assumption | (with_reducible refine Ext.alloc ?_ _) | (with_reducible refine Ext.drew ?_) | (with_reducible refine Ext.drewN ?_ _) | (refine Ext.trans ?_ (by assumption))))⟩
      rw [he.out]
      exact Own.lit1 _ _ _ _ (Nat.le_refl _) _ rfl _
    · have he := Lib.hid (oneN_big (n := n) (by omega))
      have hi : ∀ (w : World), Calls Try.prog 70 #[.int .i64 ((n : Int) / 128)] w (RetOwn 5 .u8 w (oneN (n / 128))) := fun w => ih (n / 128) (by omega) w (by omega)
      clear ih
      have hl := oneN_length (n / 128) 8 (by omega)
      have HL := Lib.hid hl; clear hl
      have hm : (128 + (n : Int) % 128) % 256 = ((128 + n % 128 : Nat) : Int) := by omega
      go_enter Try.func70, Try.ntmps70
      go_wp2_with (first | (go_at_call 70; refine (hi _).mono ?_; rintro e w1 ⟨v1, rfl, ho1, hx1⟩; obtain ⟨A1, c1, rfl, hr1, _⟩ := ho1.read) | (at_builtin; refine app_row (w0 := w) 1 Try.underlying33 Try.info5 (by decide) _ [((128 + n % 128 : Nat) : Int)] (oneN (n / 128)) A1 c1 rfl rfl ((Own.lit1 5 .u8 w.heap.size w (Nat.le_refl _) _ rfl _).ext hx1) (by (repeat (first | exact Ext.refl _ | assumption | (with_reducible refine Ext.alloc ?_ _) | (with_reducible refine Ext.drew ?_) | (with_reducible refine Ext.drewN ?_ _) | (refine Ext.trans ?_ (by assumption))))) hr1 (by have := HL.out; simp; omega) ?_; intro v2 w2 ho2 hx2))
      go_ret
      exact ⟨_, rfl, by rw [he.out]; exact ho2, hx2⟩

theorem mask_int {y : Int} (h0 : 0 ≤ y) (h1 : y ≤ 255) : bits .and .u8 y 127 = y % 128 := by
  have hM := mask7 y.toNat (by omega)
  rw [Int.toNat_of_nonneg h0] at hM
  rw [hM]; omega
theorem or_int (xs : List Int) (k : Nat) (h0 : 0 ≤ nth xs k) (hk : k ≤ 6) : bits .or .i64 (valTo xs k : Int) (wrap64 (nth xs k % 128 * 2 ^ (7 * k))) = ((valTo xs k + (nth xs k).toNat % 128 * 128 ^ k : Nat) : Int) := by
  have hO := or_grp (valTo xs k) ((nth xs k).toNat % 128) k (valTo_lt xs k) (by omega) hk
  have e : (((nth xs k).toNat % 128 : Nat) : Int) = nth xs k % 128 := by omega
  rw [e] at hO
  have hw : wrap64 (nth xs k % 128 * 2 ^ (7 * k)) = nth xs k % 128 * 2 ^ (7 * k) := by
    have hp : (2 : Int) ^ (7 * k) ≤ 2 ^ 42 := by
      have := Nat.pow_le_pow_right (n := 2) (by decide) (show 7 * k ≤ 42 by omega)
      exact_mod_cast this
    have h2 : nth xs k % 128 * 2 ^ (7 * k) ≤ 127 * 2 ^ 42 := Int.mul_le_mul (by omega) hp (Int.le_of_lt (Int.pow_pos (by decide))) (by decide)
    have h3 : 0 ≤ nth xs k % 128 * 2 ^ (7 * k) := Int.mul_nonneg (by omega) (Int.le_of_lt (Int.pow_pos (by decide)))
    have h4 : (127 : Int) * 2 ^ 42 = 558551906910208 := by decide
    generalize nth xs k % 128 * 2 ^ (7 * k) = z at *
    unfold wrap64
    omega
  rw [hw]
  exact hO
theorem num_ok {xs : List Int} {k : Nat} (h : ∀ i, i < k → 128 ≤ nth xs i) (hl : k < xs.length) (h6 : k < 6) (hv : valTo xs (k + 1) ≤ 1099511627776) (h0 : ¬ (0 < k ∧ nth xs k = 0)) (hs : nth xs k < 128) : numV xs = (valTo xs (k + 1) : Int) ∧ numS xs = k + 1 := by
  have e := cnt_eq h hl hs
  have : numOk xs = true := by
    simp only [numOk, e, Bool.and_eq_true, decide_eq_true_eq, Bool.not_eq_true', Bool.and_eq_false_iff, decide_eq_false_iff_not]
    refine ⟨⟨⟨hl, by omega⟩, hv⟩, ?_⟩
    by_cases h1 : 0 < k
    · exact .inr (fun h2 => h0 ⟨h1, h2⟩)
    · exact .inl h1
  simp [numV, numS, this, e]
theorem num_bad {xs : List Int} (h : numOk xs = false) : numV xs = 0 ∧ numS xs = 0 := by simp [numV, numS, h]
theorem num_far {xs : List Int} {k : Nat} (h : ∀ i, i < k → 128 ≤ nth xs i) (hl : k < xs.length) (hn : valTo xs (k + 1) > 1099511627776 ∨ 6 ≤ k ∨ (0 < k ∧ nth xs k = 0)) : numV xs = 0 ∧ numS xs = 0 := by
  apply num_bad
  have hk : k ≤ cnt xs := by
    rcases Nat.lt_or_ge (cnt xs) k with h1 | h1
    · have := cnt_stop xs (by omega); have := h _ h1; omega
    · exact h1
  have hm := valTo_mono xs (k + 1) (cnt xs + 1) (by omega)
  cases hq : numOk xs
  · rfl
  · simp only [numOk, Bool.and_eq_true, decide_eq_true_eq, Bool.not_eq_true', Bool.and_eq_false_iff, decide_eq_false_iff_not] at hq
    rcases hn with hn | hn | ⟨h1, h2⟩
    · omega
    · omega
    · have e := cnt_eq h hl (by omega)
      rw [e] at hq
      rcases hq.2 with h3 | h3
      · exact absurd h1 h3
      · exact absurd h2 h3
theorem num_end {xs : List Int} (h : ∀ i, i < xs.length → 128 ≤ nth xs i) : numV xs = 0 ∧ numS xs = 0 := by
  apply num_bad
  have e := cnt_all h
  simp [numOk, e]
def Grp (xs : List Int) (k : Nat) : Prop := ∀ i, i < k → 128 ≤ nth xs i
set_option maxRecDepth 20000 in
set_option maxHeartbeats 1600000 in
theorem number_any (A : Option Addr) (c : Nat) (xs : List Int) (w : World) (h : RdK .u8 w A xs) (hb : Bytes xs) :
    Calls Try.prog 71 #[.slice A xs.length c] w fun e w' => e = .returned (.tuple #[.int .i64 (numV xs), .int .i64 (numS xs)]) ∧ w = w' := by
  obtain ⟨hlen, hr⟩ := h
  have HR := Lib.hid hr; clear hr
  have HB := Lib.hid hb; clear hb
  go_enter Try.func71, Try.ntmps71
  go_wp2
  go_loop [4, 5, 6, 9, 22, 37] (fun n _ _ j _ _ => ∃ k : Nat, k ≤ xs.length ∧ k ≤ 6 ∧ j = .int .i64 k ∧ n = .int .i64 (valTo xs k : Int) ∧ Grp xs k) (fun _ _ _ j _ _ => xs.length - (intOf j).toNat)
  case atStart => exact ⟨0, by omega, by omega, rfl, rfl, fun i hi => by omega⟩
  case round =>
    obtain ⟨k, hk, hk6, rfl, rfl, hg⟩ := hrel
    have HG := Lib.hid hg; clear hg
    by_cases hlt : k < xs.length
    · obtain ⟨ad, rfl, hc⟩ := HR.out k hlt
      obtain ⟨hn1, hn2⟩ := HB.out.nth k
      have hV : Hid (valTo xs (k + 1) = valTo xs k + (nth xs k).toNat % 128 * 128 ^ k) := rfl
      have hO := or_int xs k hn1 hk6
      rw [← hV.out] at hO
      have hM := mask_int hn1 hn2
      have hv1 := valTo_lt xs (k + 1)
      have hv2 : 128 ^ (k + 1) ≤ 128 ^ 7 := Nat.pow_le_pow_right (by decide) (by omega)
      rw [show 128 ^ 7 = 562949953421312 by decide] at hv2
      have hv3 : valTo xs (k + 1) < 562949953421312 := by omega
      clear hv1 hv2
      generalize hx : valTo xs (k + 1) = x at *
      generalize hy : nth xs k = y at *
      have HX := Lib.hid hx; clear hx
      have HY := Lib.hid hy; clear hy
      by_cases c1 : (1099511627776 : Int) < x
      · have he := num_far HG.out hlt (.inl (by rw [HX.out]; omega))
        have h1 := Lib.hid he.1
        have h2 := Lib.hid he.2
        clear he
        go_wp2
        go_ret2
        exact ⟨by rw [h1.out, h2.out]; rfl, rfl⟩
      by_cases c2 : 6 ≤ k
      · have he := num_far HG.out hlt (.inr (.inl (by omega)))
        have h1 := Lib.hid he.1
        have h2 := Lib.hid he.2
        clear he
        go_wp2
        go_ret2
        exact ⟨by rw [h1.out, h2.out]; rfl, rfl⟩
      have c2' : k < 6 := by omega
      clear c2
      by_cases c3 : y < 128
      · by_cases c4 : 0 < k
        · cases c5 : (y == 0)
          rotate_left
          · have he := num_far HG.out hlt (.inr (.inr ⟨c4, by rw [HY.out]; simpa using c5⟩))
            have h1 := Lib.hid he.1
            have h2 := Lib.hid he.2
            clear he
            go_wp2
            go_ret2
            exact ⟨by rw [h1.out, h2.out]; rfl, rfl⟩
          · have he := num_ok HG.out hlt c2' (by rw [HX.out]; omega) (by rw [HY.out]; exact fun h => by simp [h.2] at c5) (by rw [HY.out]; exact c3)
            have h1 := Lib.hid he.1
            have h2 := Lib.hid he.2
            clear he
            go_wp2
            go_ret2
            exact ⟨by rw [h1.out, h2.out, HX.out]; rfl, rfl⟩
        · have he := num_ok HG.out hlt c2' (by rw [HX.out]; omega) (fun h => c4 h.1) (by rw [HY.out]; exact c3)
          have h1 := Lib.hid he.1
          have h2 := Lib.hid he.2
          clear he
          go_wp2
          go_ret2
          exact ⟨by rw [h1.out, h2.out, HX.out]; rfl, rfl⟩
      · have c6 : (y == 0) = false := by simp; omega
        have hg' : Hid (Grp xs (k + 1)) := by
          intro i hi
          rcases Nat.lt_or_ge i k with h1 | h1
          · exact HG.out i h1
          · obtain rfl : i = k := by omega
            rw [HY.out]; omega
        by_cases c4 : 0 < k
        · go_wp2
          go_round
          case rel => exact ⟨k + 1, by omega, by omega, by go_num, by rw [HX.out], hg'.out⟩
          case measure => simp [intOf]; omega
        · go_wp2
          go_round
          case rel => exact ⟨k + 1, by omega, by omega, by go_num, by rw [HX.out], hg'.out⟩
          case measure => simp [intOf]; omega
    · obtain rfl : k = xs.length := by omega
      have he := num_end HG.out
      have h1 := Lib.hid he.1
      have h2 := Lib.hid he.2
      clear he
      go_wp2
      go_ret2
      exact ⟨by rw [h1.out, h2.out]; rfl, rfl⟩
end Go.Proofs.Ytkepmkdnmmofmaa
