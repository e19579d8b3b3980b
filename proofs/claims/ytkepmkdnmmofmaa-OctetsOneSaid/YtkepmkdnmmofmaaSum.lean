/-
  The package sum and its reference, walked. Conditions: slices that are read lie in memory; they are bytes; they are not too long to be copied.
-/
import Derived.Test.YtkepmkdnmmofmaaW2
import Derived.Test.YtkepmkdnmmofmaaProg
import Derived.Laws.BitsLemmas
set_option linter.unusedVariables false
set_option linter.unusedSimpArgs false
namespace Go.Proofs.Ytkepmkdnmmofmaa
open Go.RowKit

/-- One bit down; so many bits down; a byte; the first bytes; all. -/
def dnN (x : Nat) : Nat := if x % 2 = 1 then (x / 2) ^^^ 3988292384 else x / 2
def itN : Nat → Nat → Nat
  | 0, x => x
  | n + 1, x => dnN (itN n x)
def crcTo (xs : List Int) : Nat → Nat
  | 0 => 4294967295
  | k + 1 => itN 8 (crcTo xs k ^^^ (nth xs k).toNat)
def crcV (xs : List Int) : Int := 4294967295 - (crcTo xs xs.length : Int)
def Bytes (xs : List Int) : Prop := ∀ x ∈ xs, 0 ≤ x ∧ x ≤ 255
theorem Bytes.nth {xs : List Int} (h : Bytes xs) (k : Nat) : 0 ≤ nth xs k ∧ nth xs k ≤ 255 := by
  by_cases hk : k < xs.length
  · exact h _ (nth_mem _ _ hk)
  · have : Proofs.Ytkepmkdnmmofmaa.nth xs k = 0 := by simp [Proofs.Ytkepmkdnmmofmaa.nth, List.getElem?_eq_none (Nat.le_of_not_lt hk)]
    rw [this]; omega
theorem xor_lt {a b : Nat} (ha : a < 4294967296) (hb : b < 4294967296) : a ^^^ b < 4294967296 := Nat.xor_lt_two_pow (n := 32) ha hb
theorem dn_lt {x : Nat} (h : x < 4294967296) : dnN x < 4294967296 := by
  unfold dnN; split
  · exact xor_lt (by omega) (by omega)
  · omega
theorem it_lt (n : Nat) {x : Nat} (h : x < 4294967296) : itN n x < 4294967296 := by
  induction n with
  | zero => exact h
  | succ n ih => exact dn_lt ih
theorem crc_lt {xs : List Int} (h : Bytes xs) (k : Nat) : crcTo xs k < 4294967296 := by
  induction k with
  | zero => simp [crcTo]
  | succ k ih => exact it_lt 8 (xor_lt ih (by have := h.nth k; omega))
theorem wraps_u32 (n : Int) (h₀ : 0 ≤ n) (h₁ : n < 2 ^ 32) : IntKind.u32.wrap n = n := by rw [IntKind.wrap_u32]; omega
theorem xor_u32 (a b : Nat) (ha : a < 4294967296) (hb : b < 4294967296) : bits .xor .u32 (a : Int) (b : Int) = ((a ^^^ b : Nat) : Int) := by
  have hx := xor_lt ha hb
  have h1 : (BitVec.ofInt 32 (a : Int)).toNat = a := by
    rw [BitVec.ofInt_natCast, BitVec.toNat_ofNat]; exact Nat.mod_eq_of_lt (by omega)
  have h2 : (BitVec.ofInt 32 (b : Int)).toNat = b := by
    rw [BitVec.ofInt_natCast, BitVec.toNat_ofNat]; exact Nat.mod_eq_of_lt (by omega)
  show IntKind.u32.wrap ((BitVec.ofInt 32 (a : Int) ^^^ BitVec.ofInt 32 (b : Int)).toNat : Int) = _
  rw [BitVec.toNat_xor, h1, h2, IntKind.wrap_u32]
  omega
theorem ones_xor {x : Nat} (h : x < 4294967296) : 4294967295 ^^^ x = 4294967295 - x := by
  have h1 := BitVec.toNat_not (x := BitVec.ofNat 32 x)
  rw [← BitVec.allOnes_xor, BitVec.toNat_xor, BitVec.toNat_allOnes, BitVec.toNat_ofNat, Nat.mod_eq_of_lt h] at h1
  exact h1
theorem crc_out {xs : List Int} (h : Bytes xs) : bits .xor .u32 IntKind.u32.max (crcTo xs xs.length : Int) = crcV xs := by
  have hl := crc_lt h xs.length
  have := xor_u32 4294967295 (crcTo xs xs.length) (by decide) hl
  rw [ones_xor hl] at this
  unfold crcV
  rw [show IntKind.u32.max = ((4294967295 : Nat) : Int) from rfl, this]
  omega
theorem and1_u32 (a : Nat) (ha : a < 4294967296) : bits .and .u32 (a : Int) 1 = ((a % 2 : Nat) : Int) := by
  have h := (bits_nat .u32 32 (by decide) wraps_u32 a 1 ha (by decide)).1
  rw [Nat.and_one_is_mod] at h
  exact h
theorem dn_odd {x : Nat} (hx : x < 4294967296) (h : x % 2 = 1) : bits .xor .u32 ((x : Int) / 2) 3988292384 = ((dnN x : Nat) : Int) := by
  have := xor_u32 (x / 2) 3988292384 (by omega) (by decide)
  unfold dnN; rw [if_pos h, ← this]; rfl
theorem dn_even {x : Nat} (hx : x < 4294967296) (h : x % 2 = 0) : bits .xor .u32 ((x : Int) / 2) 0 = ((dnN x : Nat) : Int) := by
  have := xor_u32 (x / 2) 0 (by omega) (by decide)
  unfold dnN; rw [if_neg (by omega), Nat.xor_zero] at *; rw [← this]; rfl

set_option maxHeartbeats 800000 in
theorem sumOf_any (A : Option Addr) (c : Nat) (xs : List Int) (w : World) (h : RdK .u8 w A xs) (hb : Bytes xs) :
    Calls Try.prog 24 #[.slice A xs.length c] w fun e w' => e = .returned (.int .u32 (crcV xs)) ∧ w = w' := by
  obtain ⟨hlen, hr⟩ := h
  have HR := Lib.hid hr; clear hr
  have HB := Lib.hid hb; clear hb
  go_enter Try.func24, Try.ntmps24
  go_wp2
  go_loop [3, 5, 6, 9, 17] (fun x _ _ i _ => ∃ k : Nat, k ≤ xs.length ∧ i = .int .i64 k ∧ x = .int .u32 (crcTo xs k : Int)) (fun _ _ _ i _ => xs.length - (intOf i).toNat)
  case atStart => exact ⟨0, by omega, rfl, rfl⟩
  case round =>
    obtain ⟨k, hk, rfl, rfl⟩ := hrel
    by_cases hlt : k < xs.length
    · obtain ⟨ad, rfl, hc⟩ := HR.out k hlt
      obtain ⟨hn1, hn2⟩ := HB.out.nth k
      have hX : bits .xor .u32 (crcTo xs k : Int) (nth xs k) = ((crcTo xs k ^^^ (nth xs k).toNat : Nat) : Int) := by
        have := xor_u32 (crcTo xs k) (nth xs k).toNat (crc_lt HB.out k) (by omega)
        rwa [Int.toNat_of_nonneg hn1] at this
      have hXl := Lib.hid (xor_lt (crc_lt HB.out k) (show (nth xs k).toNat < 4294967296 by omega))
      have hnx : Hid (crcTo xs (k + 1) = itN 8 (crcTo xs k ^^^ (nth xs k).toNat)) := rfl
      generalize hg : crcTo xs k ^^^ (nth xs k).toNat = X at *
      clear hg
      go_wp2
      go_loop [3, 6, 17] (fun x _ j => ∃ l : Nat, l ≤ 8 ∧ j = .int .i64 l ∧ x = .int .u32 (itN l X : Int)) (fun _ _ j => 8 - (intOf j).toNat)
      case atStart => exact ⟨0, by omega, rfl, rfl⟩
      case round =>
        obtain ⟨l, hl, rfl, rfl⟩ := hrel
        by_cases hl8 : l < 8
        · have hb := it_lt l hXl.out
          have ha := and1_u32 _ hb
          have hnl : Hid (itN (l + 1) X = dnN (itN l X)) := rfl
          rcases Nat.mod_two_eq_zero_or_one (itN l X) with h2 | h2
          · have hd := dn_even hb h2
            rw [h2] at ha
            clear h2
            go_wp2
            go_round
            case rel => exact ⟨l + 1, by omega, by go_num, by rw [hnl.out]⟩
            case measure => simp [intOf]; omega
          · have hd := dn_odd hb h2
            rw [h2] at ha
            clear h2
            go_wp2
            go_round
            case rel => exact ⟨l + 1, by omega, by go_num, by rw [hnl.out]⟩
            case measure => simp [intOf]; omega
        · obtain rfl : l = 8 := by omega
          go_wp2
          go_round
          case rel => exact ⟨k + 1, by omega, by go_num, by rw [hnx.out]⟩
          case measure => simp [intOf]; omega
    · obtain rfl : k = xs.length := by omega
      have hout := Lib.hid (crc_out HB.out)
      go_wp2
      go_ret
      refine ⟨ret_eq ?_, rfl⟩
      exact congrArg (Value.int .u32) hout.out
set_option maxHeartbeats 400000 in
theorem down_any (x : Nat) (w : World) (hx : x < 4294967296) :
    Calls Try.prog 61 #[.int .u32 (x : Int)] w fun e w' => e = .returned (.int .u32 (dnN x : Int)) ∧ w = w' := by
  rcases Nat.mod_two_eq_zero_or_one x with h2 | h2
  · have hd : Hid (dnN x = x / 2) := by show _ = _; unfold dnN; rw [if_neg (by omega)]
    have h3 : ¬ (x : Int) % 2 = 1 := by omega
    clear h2
    go_enter Try.func61, Try.ntmps61
    go_wp2
    go_ret
    exact ⟨ret_eq (congrArg (Value.int .u32) (by rw [hd.out]; rfl)), rfl⟩
  · have hd := dn_odd hx h2
    have h3 : (x : Int) % 2 = 1 := by omega
    clear h2
    go_enter Try.func61, Try.ntmps61
    go_wp2
    go_ways
    go_ret
    exact ⟨ret_eq rfl, rfl⟩

set_option maxHeartbeats 800000 in
theorem rsumOf_any (A : Option Addr) (c : Nat) (xs : List Int) (w : World) (h : RdK .u8 w A xs) (hb : Bytes xs) :
    Calls Try.prog 25 #[.slice A xs.length c] w fun e w' => e = .returned (.int .u32 (crcV xs)) ∧ w = w' := by
  obtain ⟨hlen, hr⟩ := h
  have HR := Lib.hid hr; clear hr
  have HB := Lib.hid hb; clear hb
  go_enter Try.func25, Try.ntmps25
  go_wp2
  go_loop [3, 4, 5] (fun x i _ => ∃ k : Nat, k ≤ xs.length ∧ i = .int .i64 k ∧ x = .int .u32 (crcTo xs k : Int)) (fun _ i _ => xs.length - (intOf i).toNat)
  case atStart => exact ⟨0, by omega, rfl, rfl⟩
  case round =>
    obtain ⟨k, hk, rfl, rfl⟩ := hrel
    by_cases hlt : k < xs.length
    · obtain ⟨ad, rfl, hc⟩ := HR.out k hlt
      obtain ⟨hn1, hn2⟩ := HB.out.nth k
      have hX : bits .xor .u32 (crcTo xs k : Int) (nth xs k) = ((crcTo xs k ^^^ (nth xs k).toNat : Nat) : Int) := by
        have := xor_u32 (crcTo xs k) (nth xs k).toNat (crc_lt HB.out k) (by omega)
        rwa [Int.toNat_of_nonneg hn1] at this
      have hXl := Lib.hid (xor_lt (crc_lt HB.out k) (show (nth xs k).toNat < 4294967296 by omega))
      have hnx : Hid (crcTo xs (k + 1) = itN 8 (crcTo xs k ^^^ (nth xs k).toNat)) := rfl
      generalize hg : crcTo xs k ^^^ (nth xs k).toNat = X at *
      clear hg
      go_wp2
      go_loop [3, 5] (fun x j => ∃ l : Nat, l ≤ 8 ∧ j = .int .i64 l ∧ x = .int .u32 (itN l X : Int)) (fun _ j => 8 - (intOf j).toNat)
      case atStart => exact ⟨0, by omega, rfl, rfl⟩
      case round =>
        obtain ⟨l, hl, rfl, rfl⟩ := hrel
        by_cases hl8 : l < 8
        · have hb := Lib.hid (it_lt l hXl.out)
          have hnl : Hid (itN (l + 1) X = dnN (itN l X)) := rfl
          go_wp2_with (go_at_call 61; (with_reducible refine (down_any _ _ hb.out).mono ?_); rintro e w' ⟨rfl, rfl⟩)
          go_round
          case rel => exact ⟨l + 1, by omega, by go_num, by rw [hnl.out]⟩
          case measure => simp [intOf]; omega
        · obtain rfl : l = 8 := by omega
          go_wp2
          go_round
          case rel => exact ⟨k + 1, by omega, by go_num, by rw [hnx.out]⟩
          case measure => simp [intOf]; omega
    · obtain rfl : k = xs.length := by omega
      have hb := crc_lt HB.out xs.length
      go_wp2
      go_ret
      exact ⟨ret_eq (congrArg (Value.int .u32) rfl), rfl⟩
end Go.Proofs.Ytkepmkdnmmofmaa
