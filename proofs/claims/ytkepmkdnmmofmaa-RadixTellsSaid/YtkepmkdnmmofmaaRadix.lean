/-
  The package radix and its reference, walked: a key's byte; the bytes by which keys differ. Conditions: slices that are read lie in memory, and hold 64 bits each.
-/
import Derived.Test.YtkepmkdnmmofmaaRadixL
import Derived.Test.YtkepmkdnmmofmaaW3
import Derived.Test.YtkepmkdnmmofmaaProg
import Derived.Laws.BitsLemmas
set_option linter.unusedVariables false
set_option linter.unusedSimpArgs false
namespace Go.Proofs.Ytkepmkdnmmofmaa
open Go.RowKit

/-- Keys of 64 bits. -/
structure U64s (xs : List Int) : Prop where mk :: (out : ∀ x ∈ xs, 0 ≤ x ∧ x < 18446744073709551616)
def keyN (xs : List Int) (i : Nat) : Nat := (nth xs i).toNat
theorem keyN_lt {xs : List Int} (h : U64s xs) (i : Nat) : keyN xs i < 18446744073709551616 := by
  unfold keyN
  by_cases hi : i < xs.length
  · have := h.out _ (nth_mem xs i hi); omega
  · have : nth xs i = 0 := by simp [nth, List.getElem?_eq_none (Nat.le_of_not_lt hi)]
    rw [this]; decide
theorem keyN_eq {xs : List Int} (h : U64s xs) (i : Nat) (hi : i < xs.length) : nth xs i = (keyN xs i : Int) := by
  have := h.out _ (nth_mem xs i hi); unfold keyN; omega
theorem wraps_u64 (n : Int) (h₀ : 0 ≤ n) (h₁ : n < 2 ^ 64) : IntKind.u64.wrap n = n := by
  have e : IntKind.u64.wrap n = n % 18446744073709551616 := by simp [IntKind.wrap, IntKind.bits, IntKind.signed]
  rw [e]; omega
theorem xor_u64 (a b : Nat) (ha : a < 18446744073709551616) (hb : b < 18446744073709551616) : bits .xor .u64 (a : Int) (b : Int) = ((a ^^^ b : Nat) : Int) := by
  have hx : a ^^^ b < 2 ^ 64 := Nat.xor_lt_two_pow ha hb
  have h1 : (BitVec.ofInt 64 (a : Int)).toNat = a := by
    rw [BitVec.ofInt_natCast, BitVec.toNat_ofNat]; exact Nat.mod_eq_of_lt ha
  have h2 : (BitVec.ofInt 64 (b : Int)).toNat = b := by
    rw [BitVec.ofInt_natCast, BitVec.toNat_ofNat]; exact Nat.mod_eq_of_lt hb
  show IntKind.u64.wrap ((BitVec.ofInt 64 (a : Int) ^^^ BitVec.ofInt 64 (b : Int)).toNat : Int) = _
  rw [BitVec.toNat_xor, h1, h2]
  exact wraps_u64 _ (Int.natCast_nonneg _) (by exact_mod_cast hx)
theorem or_u64 (a b : Nat) (ha : a < 18446744073709551616) (hb : b < 18446744073709551616) : bits .or .u64 (a : Int) (b : Int) = ((a ||| b : Nat) : Int) :=
  (bits_nat .u64 64 (by decide) wraps_u64 a b ha hb).2
theorem and255_u64 (a : Nat) (ha : a < 18446744073709551616) : bits .and .u64 (a : Int) 255 = ((a % 256 : Nat) : Int) := by
  have h := (bits_nat .u64 64 (by decide) wraps_u64 a 255 ha (by decide)).1
  have e : a &&& 255 = a % 256 := Nat.and_two_pow_sub_one_eq_mod a 8
  rw [e] at h
  exact h
/-- A key's byte. -/
def digN (x k : Nat) : Nat := x / 256 ^ k % 256
theorem digN_lt (x k : Nat) : digN x k < 256 := Nat.mod_lt _ (by decide)
theorem digN_bits (x k : Nat) : digN x k = (x >>> (8 * k)) &&& 255 := by
  have e : ∀ a : Nat, a &&& 255 = a % 256 := fun a => Nat.and_two_pow_sub_one_eq_mod a 8
  rw [e, Nat.shiftRight_eq_div_pow, Nat.pow_mul]; rfl
theorem digN_or (x y k : Nat) : digN (x ||| y) k = digN x k ||| digN y k := by
  rw [digN_bits, digN_bits, digN_bits, Nat.shiftRight_or_distrib, Nat.and_or_distrib_right]
theorem digN_xor (x y k : Nat) : digN (x ^^^ y) k = digN x k ^^^ digN y k := by
  rw [digN_bits, digN_bits, digN_bits, Nat.shiftRight_xor_distrib, Nat.and_xor_distrib_right]
theorem xor_zero_iff (a b : Nat) : a ^^^ b = 0 ↔ a = b := by
  constructor
  · intro h
    have : (a ^^^ b) ^^^ b = 0 ^^^ b := by rw [h]
    rwa [Nat.xor_assoc, Nat.xor_self, Nat.xor_zero, Nat.zero_xor] at this
  · rintro rfl; exact Nat.xor_self a
/-- What differs from the first key in the first ones. -/
def difN (key : Nat → Nat) : Nat → Nat
  | 0 => 0
  | k + 1 => difN key k ||| (key k ^^^ key 0)
theorem difN_lt {key : Nat → Nat} (h : ∀ i, key i < 18446744073709551616) (k : Nat) : difN key k < 18446744073709551616 := by
  induction k with
  | zero => simp [difN]
  | succ k ih => exact Nat.or_lt_two_pow (n := 64) ih (Nat.xor_lt_two_pow (n := 64) (h k) (h 0))
theorem difN_dig (key : Nat → Nat) (n k : Nat) : (digN (difN key n) k != 0) = difB key n k := by
  unfold difB
  induction n with
  | zero => simp [difN, digN]
  | succ n ih =>
    rw [List.range_succ, List.any_append, ← ih]
    simp only [difN, digN_or, digN_xor, List.any_cons, List.any_nil, Bool.or_false]
    show _ = (_ || (digN (key n) k != digN (key 0) k))
    rw [Bool.eq_iff_iff]
    simp only [bne_iff_ne, Bool.or_eq_true, ne_eq, Nat.or_eq_zero_iff, xor_zero_iff]
    by_cases h1 : digN (difN key n) k = 0 <;> simp [h1]

theorem dig_shr (a k : Nat) : (a : Int) / 2 ^ (8 * k) = ((a / 256 ^ k : Nat) : Int) := by
  have e : (2 : Int) ^ 8 = ((256 : Nat) : Int) := by decide
  have : ((2 : Int) ^ (8 * k)) = ((256 ^ k : Nat) : Int) := by
    rw [Int.natCast_pow, Int.pow_mul, e]
  rw [this]; exact (Int.natCast_ediv a (256 ^ k)).symm
theorem add_zero (ad : Addr) : ad.add 0 = ad := by simp [Addr.add]
set_option maxHeartbeats 800000 in
theorem digit_any (a k : Nat) (w : World) (ha : a < 18446744073709551616) (hk : k < 8) :
    Calls Try.prog 58 #[.int .u64 (a : Int), .int .i64 (k : Int)] w fun e w' => e = .returned (.int .i64 (digN a k : Int)) ∧ w = w' := by
  have hs := dig_shr a k
  have hand : bits .and .u64 ((a : Int) / 2 ^ (8 * k)) 255 = (digN a k : Int) := by
    rw [hs, and255_u64 _ (Nat.lt_of_le_of_lt (Nat.div_le_self _ _) ha)]; rfl
  have hl := digN_lt a k
  have HS := Lib.hid hs; clear hs
  have HA := Lib.hid ha; clear ha
  go_enter Try.func58, Try.ntmps58
  go_wp2
  go_ret
  exact ⟨ret_eq rfl, rfl⟩
theorem rinfo_int : (Try.prog.info? 3).map (fun i => (i.zero, i.size, i.bytes)) = some (some (.int .i64 0), 1, 8) := by kernel_rfl
theorem rinfo_u64 : (Try.prog.info? 30).map (fun i => (i.zero, i.size, i.bytes)) = some (some (.int .u64 0), 1, 8) := by kernel_rfl
theorem zero_bits : bits .or .u64 0 0 = 0 := by decide
set_option maxHeartbeats 1600000 in
theorem deals_any (A : Option Addr) (c : Nat) (xs : List Int) (w : World) (h : RdK .u64 w A xs) (hu : U64s xs) :
    Calls Try.prog 57 #[.slice A xs.length c] w (RetRow 3 .i64 w ((difs (keyN xs) xs.length 8).map Int.ofNat)) := by
  obtain ⟨hlen, hr⟩ := h
  have HR := Lib.hid hr; clear hr
  have HU := Lib.hid hu; clear hu
  go_enter Try.func57, Try.ntmps57
  go_wp2
  go_loop [3, 5, 10] (fun x _ i => ∃ k : Nat, k ≤ xs.length ∧ i = .int .i64 k ∧ x = .int .u64 (difN (keyN xs) k : Int)) (fun _ _ i => xs.length - (intOf i).toNat)
  case atStart => exact ⟨0, by omega, rfl, rfl⟩
  case round =>
    obtain ⟨k, hk, rfl, rfl⟩ := hrel
    by_cases hlt : k < xs.length
    · obtain ⟨ad, rfl, hc⟩ := HR.out k hlt
      obtain ⟨ad', he, hc0⟩ := HR.out 0 (by omega)
      injection he with he; subst he
      rw [keyN_eq HU.out _ hlt] at hc
      rw [keyN_eq HU.out _ (by omega), add_zero] at hc0
      have hx := xor_u64 (keyN xs k) (keyN xs 0) (keyN_lt HU.out _) (keyN_lt HU.out _)
      have ho := or_u64 (difN (keyN xs) k) (keyN xs k ^^^ keyN xs 0) (difN_lt (keyN_lt HU.out) _) (Nat.xor_lt_two_pow (n := 64) (keyN_lt HU.out _) (keyN_lt HU.out _))
      have hn : Hid (difN (keyN xs) (k + 1) = difN (keyN xs) k ||| (keyN xs k ^^^ keyN xs 0)) := rfl
      go_wp2
      go_round
      case rel => exact ⟨k + 1, by omega, by go_num, by rw [hn.out]⟩
      case measure => simp [intOf]; omega
    · obtain rfl : k = xs.length := by omega
      have hdl := Lib.hid (difN_lt (keyN_lt HU.out) xs.length)
      go_wp2
      go_loopw [6, 7, 22] (fun o _ i wr => ∃ k : Nat, k ≤ 8 ∧ i = .int .i64 k ∧ Own 3 .i64 w.heap.size wr o ((difs (keyN xs) xs.length k).map Int.ofNat) ∧ Ext w wr) (fun _ _ i _ => 8 - (intOf i).toNat)
      case atStart => exact ⟨0, by omega, rfl, Own.nil _ _ _ _, Ext.refl _⟩
      case round =>
        obtain ⟨k, hk, rfl, ho, hx⟩ := hrel
        by_cases hlt : k < 8
        · have hd := Lib.hid (difN_dig (keyN xs) xs.length k)
          have hds := Lib.hid (difs_succ (keyN xs) xs.length k)
          have hln : Hid ((((difs (keyN xs) xs.length k).map Int.ofNat).length + 1) * 8 ≤ 140737488355328) := by
            have hl : (difs (keyN xs) xs.length k).length ≤ 8 := Nat.le_trans (difs_len _ _ _) (by omega)
            show _ ≤ _
            rw [List.length_map]; omega
          cases hb : difB (keyN xs) xs.length k
          · have hb2 : ((digN (difN (keyN xs) xs.length) k : Int) != 0) = false := by
              have := hd.out; rw [hb] at this; simpa using this
            rw [hb] at hds
            go_wp2_with (go_at_call 58; (with_reducible refine (digit_any _ _ _ hdl.out hlt).mono ?_); rintro e w' ⟨rfl, rfl⟩)
            go_roundw
            case rel => exact ⟨k + 1, by omega, by go_num, by rw [hds.out]; exact ho, hx⟩
            case measure => simp [intOf]; omega
          · have hb2 : ((digN (difN (keyN xs) xs.length) k : Int) != 0) = true := by
              have := hd.out; rw [hb] at this; simpa using this
            rw [hb] at hds
            go_wp2_with (first | (go_at_call 58; (with_reducible refine (digit_any _ _ _ hdl.out hlt).mono ?_); rintro e w' ⟨rfl, rfl⟩) | (at_builtin; refine app_one (w0 := w) 8 Try.underlying24 rinfo_int (by decide) _ _ rfl rfl rfl ho hx hln.out ?_; intro v1 w1 ho1 hx1))
            go_roundw
            case rel => exact ⟨k + 1, by omega, by go_num, by rw [hds.out]; simpa using ho1, hx1⟩
            case measure => simp [intOf]; omega
        · obtain rfl : k = 8 := by omega
          go_wp2
          go_ret
          exact ⟨_, rfl, ho, hx⟩
end Go.Proofs.Ytkepmkdnmmofmaa
