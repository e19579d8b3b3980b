/-
  Seal and Open, of the package sum and of its reference, and Turn. Conditions: slices that are read lie in memory; they are bytes; they are not too long to be copied.
-/
import Derived.Test.YtkepmkdnmmofmaaBytes
set_option linter.unusedVariables false
set_option linter.unusedSimpArgs false
namespace Go.Proofs.Ytkepmkdnmmofmaa
open Go.RowKit

/-- The lowest bytes of a number. -/
def leTo (x : Int) : Nat → List Int
  | 0 => []
  | k + 1 => leTo x k ++ [x / 2 ^ (8 * k) % 256]
def sealL (xs : List Int) : List Int := xs ++ leTo (crcV xs) 4
theorem leTo_length (x : Int) (k : Nat) : (leTo x k).length = k := by
  induction k with
  | zero => rfl
  | succ k ih => simp [leTo, ih]
theorem leTo_bytes (x : Int) (k : Nat) : Bytes (leTo x k) := by
  induction k with
  | zero => intro y hy; simp [leTo] at hy
  | succ k ih =>
    intro y hy
    simp only [leTo, List.mem_append, List.mem_singleton] at hy
    rcases hy with hy | rfl
    · exact ih y hy
    · omega
theorem Bytes.append {xs ys : List Int} (h : Bytes xs) (h' : Bytes ys) : Bytes (xs ++ ys) := by
  intro y hy
  rcases List.mem_append.1 hy with hy | hy
  · exact h y hy
  · exact h' y hy
theorem seal_bytes {xs : List Int} (h : Bytes xs) : Bytes (sealL xs) := h.append (leTo_bytes _ _)
theorem seal_length (xs : List Int) : (sealL xs).length = xs.length + 4 := by simp [sealL, leTo_length]
theorem crcV_bd {xs : List Int} (h : Bytes xs) : 0 ≤ crcV xs ∧ crcV xs ≤ 4294967295 := by
  have := crc_lt h xs.length
  unfold crcV; omega

set_option maxHeartbeats 800000 in
theorem seal_any (A : Option Addr) (c : Nat) (xs : List Int) (w : World) (h : RdK .u8 w A xs) (hb : Bytes xs) (hl : xs.length ≤ 140737488355000) :
    Calls Try.prog 21 #[.slice A xs.length c] w (RetOwn 5 .u8 w (sealL xs)) := by
  have H := Lib.hid h; clear h
  have HB := Lib.hid hb; clear hb
  have HL := Lib.hid hl; clear hl
  have hbd := crcV_bd HB.out
  generalize hx : crcV xs = x at *
  have HX := Lib.hid hx; clear hx
  obtain ⟨hx1, hx2⟩ := hbd
  go_enter Try.func21, Try.ntmps21
  go_wp2_with (first | (go_at_call 24; refine (sumOf_any _ _ _ _ H.out HB.out).mono ?_; rw [HX.out]; rintro e w' ⟨rfl, rfl⟩) | (go_at_call 59; refine (cloneB_any _ _ _ _ H.out (by have := HL.out; omega)).mono ?_; rintro e w1 ⟨v, rfl, ho, hx⟩))
  go_loopw [4, 5, 10] (fun o _ i wr => ∃ k : Nat, k ≤ 4 ∧ i = .int .i64 k ∧ Own 5 .u8 w.heap.size wr o (xs ++ leTo x k) ∧ Ext w wr) (fun _ _ i _ => 4 - (intOf i).toNat)
  case atStart => exact ⟨0, by omega, rfl, by simpa [leTo] using ho, hx⟩
  case round =>
    obtain ⟨k, hk, rfl, ho1, hx1⟩ := hrel
    by_cases h4 : k < 4
    · have hlen : ((xs ++ leTo x k).length + 1) * 1 ≤ 140737488355328 := by
        have := HL.out; simp only [List.length_append, leTo_length]; omega
      have HLL := Lib.hid hlen; clear hlen
      go_wp2_with (at_builtin; refine app_one (w0 := w) 1 Try.underlying33 Try.info5 (by decide) _ _ rfl rfl rfl ho1 hx1 HLL.out ?_; intro v2 w2 ho2 hx2)
      rw [List.append_assoc] at ho2
      go_roundw
      case rel => exact ⟨k + 1, by omega, by go_num, ho2, hx2⟩
      case measure => simp [intOf]; omega
    · obtain rfl : k = 4 := by omega
      go_wp2
      go_ret
      exact ⟨_, rfl, by rw [sealL, HX.out]; exact ho1, hx1⟩
theorem shift_down (x : Int) (k : Nat) : x / 2 ^ (8 * k) / 256 = x / 2 ^ (8 * (k + 1)) := by
  rw [Int.ediv_ediv_of_nonneg (Int.le_of_lt (Int.pow_pos (by decide))), show (256 : Int) = 2 ^ 8 by decide, ← Int.pow_add, Nat.mul_add, Nat.mul_one]
theorem down_bd {x : Int} (h : 0 ≤ x ∧ x ≤ 4294967295) (k : Nat) : 0 ≤ x / 2 ^ (8 * k) ∧ x / 2 ^ (8 * k) ≤ 4294967295 := by
  have hp : (0 : Int) < 2 ^ (8 * k) := Int.pow_pos (by decide)
  exact ⟨Int.ediv_nonneg h.1 (Int.le_of_lt hp), Int.le_trans (Int.ediv_le_self _ h.1) h.2⟩
set_option maxHeartbeats 800000 in
theorem rseal_any (A : Option Addr) (c : Nat) (xs : List Int) (w : World) (h : RdK .u8 w A xs) (hb : Bytes xs) (hl : xs.length ≤ 140737488355000) :
    Calls Try.prog 26 #[.slice A xs.length c] w (RetOwn 5 .u8 w (sealL xs)) := by
  have H := Lib.hid h; clear h
  have HB := Lib.hid hb; clear hb
  have HL := Lib.hid hl; clear hl
  have hbd := crcV_bd HB.out
  generalize hx : crcV xs = x at *
  have HX := Lib.hid hx; clear hx
  have HD := Lib.hid (down_bd hbd); clear hbd
  have hz : x / 2 ^ (8 * 0) = x := by simp
  have HZ := Lib.hid hz; clear hz
  go_enter Try.func26, Try.ntmps26
  go_wp2_with (first | (go_at_call 25; refine (rsumOf_any _ _ _ _ H.out HB.out).mono ?_; rw [HX.out]; rintro e w' ⟨rfl, rfl⟩) | (at_builtin; refine app_row (w0 := w) 1 Try.underlying33 Try.info5 (by decide) _ [] xs A c rfl rfl (Own.made0 _ _ _ _ (Nat.le_refl _) _ rfl) ((Ext.refl _).alloc _) (H.out.ext ((Ext.refl _).alloc _)) (by have := HL.out; simp; omega) ?_; intro v1 w1 ho hx))
  go_loopw [3, 4, 5] (fun y o i wr => ∃ k : Nat, k ≤ 4 ∧ i = .int .i64 k ∧ y = .int .u32 (x / 2 ^ (8 * k)) ∧ Own 5 .u8 w.heap.size wr o (xs ++ leTo x k) ∧ Ext w wr) (fun _ _ i _ => 4 - (intOf i).toNat)
  case atStart => exact ⟨0, by omega, rfl, by rw [HZ.out], by simpa [leTo] using ho, hx⟩
  case round =>
    obtain ⟨k, hk, rfl, rfl, ho1, hx1⟩ := hrel
    obtain ⟨hd1, hd2⟩ := HD.out k
    by_cases h4 : k < 4
    · have hlen : ((xs ++ leTo x k).length + 1) * 1 ≤ 140737488355328 := by
        have := HL.out; simp only [List.length_append, leTo_length]; omega
      have HLL := Lib.hid hlen; clear hlen
      have HS := Lib.hid (shift_down x k)
      go_wp2_with (at_builtin; refine app_one (w0 := w) 1 Try.underlying33 Try.info5 (by decide) _ _ rfl rfl rfl ho1 hx1 HLL.out ?_; intro v2 w2 ho2 hx2)
      rw [List.append_assoc] at ho2
      go_roundw
      case rel => exact ⟨k + 1, by omega, by go_num, by rw [← HS.out], ho2, hx2⟩
      case measure => simp [intOf]; omega
    · obtain rfl : k = 4 := by omega
      go_wp2
      go_ret
      exact ⟨_, rfl, by rw [sealL, HX.out]; exact ho1, hx1⟩
end Go.Proofs.Ytkepmkdnmmofmaa
