/-
  Turn, of the reference of layer 21, walked. Conditions: the slice lies in memory; it is of bytes, not empty, and not too long.
-/
import Derived.Test.YtkepmkdnmmofmaaRef21
set_option linter.unusedVariables false
set_option linter.unusedSimpArgs false
namespace Go.Proofs.Ytkepmkdnmmofmaa
open Go.RowKit

def xorB (a : Int) (b : Nat) : Int := ((a.toNat ^^^ b : Nat) : Int)
def tuC (xs : List Int) (at_ pat i : Nat) : Bool := decide (pat / 2 ^ i % 2 = 1) && decide (at_ + i < 8 * xs.length)
/-- Bytes, of which the pattern's first bits are turned. -/
def tuTo (xs : List Int) (at_ pat : Nat) : Nat → List Int
  | 0 => xs
  | i + 1 => if tuC xs at_ pat i then (tuTo xs at_ pat i).set ((at_ + i) / 8) (xorB (nth (tuTo xs at_ pat i) ((at_ + i) / 8)) (2 ^ ((at_ + i) % 8))) else tuTo xs at_ pat i
theorem tuTo_length (xs : List Int) (at_ pat i : Nat) : (tuTo xs at_ pat i).length = xs.length := by
  induction i with
  | zero => rfl
  | succ i ih => simp only [tuTo]; split <;> simp [ih]
theorem pow8 (k : Nat) : 2 ^ (k % 8) < 256 := by
  have : 2 ^ (k % 8) ≤ 2 ^ 7 := Nat.pow_le_pow_right (by decide) (by omega)
  omega
theorem xorB_byte {a : Int} (h : 0 ≤ a ∧ a ≤ 255) {b : Nat} (hb : b < 256) : 0 ≤ xorB a b ∧ xorB a b ≤ 255 := by
  have : a.toNat ^^^ b < 2 ^ 8 := Nat.xor_lt_two_pow (by omega) hb
  unfold xorB; omega
theorem tuTo_bytes {xs : List Int} (h : Bytes xs) (at_ pat i : Nat) : Bytes (tuTo xs at_ pat i) := by
  induction i with
  | zero => exact h
  | succ i ih =>
    simp only [tuTo]; split
    · intro x hx
      rcases List.mem_or_eq_of_mem_set hx with hx | rfl
      · exact ih x hx
      · exact xorB_byte (ih.nth _) (pow8 _)
    · exact ih
theorem xor_u8 (a b : Nat) (ha : a < 256) (hb : b < 256) : bits .xor .u8 (a : Int) (b : Int) = ((a ^^^ b : Nat) : Int) := by
  have hx : a ^^^ b < 2 ^ 8 := Nat.xor_lt_two_pow ha hb
  have h1 : (BitVec.ofInt 8 (a : Int)).toNat = a := by
    rw [BitVec.ofInt_natCast, BitVec.toNat_ofNat]; exact Nat.mod_eq_of_lt (by omega)
  have h2 : (BitVec.ofInt 8 (b : Int)).toNat = b := by
    rw [BitVec.ofInt_natCast, BitVec.toNat_ofNat]; exact Nat.mod_eq_of_lt (by omega)
  show IntKind.u8.wrap ((BitVec.ofInt 8 (a : Int) ^^^ BitVec.ofInt 8 (b : Int)).toNat : Int) = _
  rw [BitVec.toNat_xor, h1, h2, IntKind.wrap_u8]
  omega

theorem cast_shift (p i : Nat) : ((p : Int) / 2 ^ i) = ((p / 2 ^ i : Nat) : Int) := by push_cast; rfl
theorem shift_bd {p : Nat} (hp : p < 4294967296) (i : Nat) : (0 : Int) ≤ (p : Int) / 2 ^ i ∧ (p : Int) / 2 ^ i ≤ 4294967295 ∧ (p / 2 ^ i % 2 = 1 ↔ (p : Int) / 2 ^ i % 2 = 1) := by
  rw [cast_shift]
  have := Nat.div_le_self p (2 ^ i)
  generalize p / 2 ^ i = q at *
  omega
theorem turn_byte {a : Int} (h : 0 ≤ a ∧ a ≤ 255) (k : Nat) : bits .xor .u8 a (2 ^ (k % 8) % 256) = xorB a (2 ^ (k % 8)) := by
  have hp := pow8 k
  have h2 : ((2 : Int) ^ (k % 8) % 256) = ((2 ^ (k % 8) : Nat) : Int) := by
    have h3 : (2 : Int) ^ (k % 8) = ((2 ^ (k % 8) : Nat) : Int) := by push_cast; rfl
    rw [h3]; exact Int.emod_eq_of_lt (Int.natCast_nonneg _) (Int.ofNat_lt.2 hp)
  have := xor_u8 a.toNat (2 ^ (k % 8)) (by omega) hp
  rw [Int.toNat_of_nonneg h.1, ← h2] at this
  rw [this]; rfl
set_option maxRecDepth 20000 in
set_option maxHeartbeats 2000000 in
theorem turn_any (A : Option Addr) (c : Nat) (xs : List Int) (at_ pat : Nat) (w : World) (h : RdK .u8 w A xs) (hb : Bytes xs) (h0 : 0 < xs.length) (hl : xs.length ≤ 100000) (ha : at_ ≤ 1000000) (hp : pat < 4294967296) :
    Calls Try.prog 27 #[.slice A xs.length c, .int .i64 (at_ : Int), .int .u32 (pat : Int)] w (RetOwn 5 .u8 w (tuTo xs at_ pat 32)) := by
  have H := Lib.hid h; clear h
  have HB := Lib.hid hb; clear hb
  go_enter Try.func27, Try.ntmps27
  go_wp2_with (at_builtin; refine app_row (w0 := w) 1 Try.underlying33 Try.info5 (by decide) _ [] xs A c rfl rfl (Own.made0 _ _ _ _ (Nat.le_refl _) _ rfl) ((Ext.refl _).alloc _) (H.out.ext ((Ext.refl _).alloc _)) (by simp; omega) ?_; intro v1 w1 ho hx; obtain ⟨g, c1, _, rfl, _, _⟩ := ho.form h0; rw [List.nil_append] at ho)
  go_loopw [8, 9] (fun j _ wr => ∃ i : Nat, i ≤ 32 ∧ j = .int .i64 i ∧ Own 5 .u8 w.heap.size wr (.slice (some ⟨g, 0, none⟩) xs.length c1) (tuTo xs at_ pat i) ∧ Ext w wr) (fun j _ _ => 32 - (intOf j).toNat)
  case atStart => exact ⟨0, by omega, rfl, ho, hx⟩
  case round =>
    obtain ⟨i, hi, rfl, ho1, hx1⟩ := hrel
    by_cases hi32 : i < 32
    · have hq := cast_shift pat i
      obtain ⟨hq0, hq1, hbit⟩ := shift_bd hp i
      have HQ := Lib.hid hq; clear hq
      have HBIT := Lib.hid hbit; clear hbit
      cases hc : tuC xs at_ pat i
      · have hs : Hid (tuTo xs at_ pat (i + 1) = tuTo xs at_ pat i) := by show _ = _; simp [tuTo, hc]
        rw [← hs.out] at ho1
        simp only [tuC, Bool.and_eq_false_iff, decide_eq_false_iff_not] at hc
        by_cases hc1 : pat / 2 ^ i % 2 = 1
        · have hc2 : ¬ at_ + i < 8 * xs.length := hc.resolve_left (fun h => h hc1)
          have hc3 : (pat : Int) / 2 ^ i % 2 = 1 := HBIT.out.1 hc1
          clear hc hc1
          go_wp2
          go_roundw
          case rel => exact ⟨i + 1, by omega, by go_num, ho1, hx1⟩
          case measure => simp [intOf]; omega
        · have hc3 : ¬ (pat : Int) / 2 ^ i % 2 = 1 := fun h => hc1 (HBIT.out.2 h)
          clear hc hc1
          go_wp2
          go_roundw
          case rel => exact ⟨i + 1, by omega, by go_num, ho1, hx1⟩
          case measure => simp [intOf]; omega
      · have hs : Hid (tuTo xs at_ pat (i + 1) = (tuTo xs at_ pat i).set ((at_ + i) / 8) (xorB (nth (tuTo xs at_ pat i) ((at_ + i) / 8)) (2 ^ ((at_ + i) % 8)))) := by show _ = _; simp [tuTo, hc]
        simp only [tuC, Bool.and_eq_true, decide_eq_true_eq] at hc
        obtain ⟨hc1, hc2⟩ := hc
        have hc3 : (pat : Int) / 2 ^ i % 2 = 1 := HBIT.out.1 hc1
        clear hc1
        have hlt : (at_ + i) / 8 < (tuTo xs at_ pat i).length := by rw [tuTo_length]; omega
        obtain ⟨hcell, hfr⟩ := ho1.at_ _ hlt
        have hby := (tuTo_bytes HB.out at_ pat i).nth ((at_ + i) / 8)
        have hset := Lib.hid (ho1.set _ hlt (xorB (nth (tuTo xs at_ pat i) ((at_ + i) / 8)) (2 ^ ((at_ + i) % 8))))
        have hge := Lib.hid ho1.ge
        have h8 := Lib.hid (turn_byte hby (at_ + i))
        clear hlt
        go_wp2
        rw [h8.out]
        go_roundw
        case rel => exact ⟨i + 1, by omega, by go_num, by rw [hs.out]; exact hset.out, hx1.set hge.out _⟩
        case measure => simp [intOf]; omega
    · obtain rfl : i = 32 := by omega
      go_wp2
      go_ret
      exact ⟨_, rfl, ho1, hx1⟩
end Go.Proofs.Ytkepmkdnmmofmaa
