/-
  The law SumBursts, walked. Conditions: none but that the slice lies in memory, and that it is of bytes.
-/
import Derived.Test.YtkepmkdnmmofmaaCrc
import Derived.Test.YtkepmkdnmmofmaaLaw21
set_option linter.unusedVariables false
set_option linter.unusedSimpArgs false
namespace Go.Proofs.Ytkepmkdnmmofmaa
open Go.RowKit

set_option maxRecDepth 20000 in
set_option maxHeartbeats 4000000 in
theorem bursts_any (A : Option Addr) (c : Nat) (xs : List Int) (at_ pat : Int) (w : World) (h : RdK .u8 w A xs) (hb : Bytes xs) (ha : 0 ≤ at_) (ha' : at_ ≤ 65535) (hp : 0 ≤ pat) (hp' : pat ≤ 4294967295) :
    Calls Try.prog 6 #[.slice A xs.length c, .int .u16 at_, .int .u32 pat] w fun e w' => e = .returned (.bool true) ∧ Ext w w' := by
  have H := Lib.hid h; clear h
  have HB := Lib.hid hb; clear hb
  obtain ⟨p, rfl⟩ := Int.eq_ofNat_of_zero_le hp
  by_cases hl : 4000 < xs.length
  · go_enter Try.func6, Try.ntmps6
    go_wp2_with (go_at_call 20; (with_reducible refine (alive21_any _).mono ?_); rintro e w' ⟨rfl, hx⟩)
    go_ret
    exact ⟨ret_eq rfl, by (repeat (first | exact Ext.refl _ | assumption | (with_reducible refine Ext.alloc ?_ _) | (with_reducible refine Ext.drew ?_) | (with_reducible refine Ext.drewN ?_ _) | (refine Ext.trans ?_ (by assumption))))⟩
  · have hl1 : Hid (xs.length ≤ 140737488355000) := by show _ ≤ _; omega
    have hsl := seal_length xs
    have hsb : Hid (Bytes (sealL xs)) := seal_bytes HB.out
    have hb1 : (((sealL xs).length : Int) == (xs.length : Int) + 4) = true := by rw [hsl]; simp
    have hb2 : (((sealL xs).length : Int) != (xs.length : Int) + 4) = false := by rw [hsl]; simp
    have hpos : Hid (0 < (sealL xs).length) := by show 0 < _; omega
    have hl2 : Hid ((sealL xs).length ≤ 100000) := by show _ ≤ _; omega
    obtain ⟨k, hk⟩ : ∃ k : Nat, at_ % (8 * ((sealL xs).length : Int)) = (k : Int) := ⟨(at_ % (8 * ((sealL xs).length : Int))).toNat, (Int.toNat_of_nonneg (Int.emod_nonneg _ (by omega))).symm⟩
    have hk1 : k < 8 * (sealL xs).length := by
      have := Int.emod_lt_of_pos at_ (show 0 < 8 * ((sealL xs).length : Int) by omega)
      omega
    have hk2 : Hid (k ≤ 1000000) := by show _ ≤ _; omega
    have hp4 : Hid (p < 4294967296) := by show _ < _; omega
    have hn1 : (1 : Int) ≤ ((sealL xs).length : Int) := by omega
    have hn2 : ((sealL xs).length : Int) ≤ 5000 := by omega
    have htl : (tuTo (sealL xs) k p 32).length = (sealL xs).length := tuTo_length _ _ _ _
    have htb : Hid (Bytes (tuTo (sealL xs) k p 32)) := tuTo_bytes hsb.out _ _ _
    have htl2 : Hid ((tuTo (sealL xs) k p 32).length ≤ 140737488355000) := by show _ ≤ _; omega
    have hE : openE (tuTo (sealL xs) k p 32) = if openB (tuTo (sealL xs) k p 32) then 0 else 10 := by unfold openE; rw [if_neg (by omega)]
    have hD : openD (tuTo (sealL xs) k p 32) = if openB (tuTo (sealL xs) k p 32) then openT (tuTo (sealL xs) k p 32) else [] := by unfold openD; rw [if_neg (by omega)]
    have hinj := strOf_inj hsb.out htb.out
    have hbu := fun hne => bursts HB.out k p (by omega) hne
    by_cases hsame : tuTo (sealL xs) k p 32 = sealL xs
    · have hE2 : openE (tuTo (sealL xs) k p 32) = 0 := by rw [hsame]; exact openE_seal xs
      rw [show eqL (sealL xs) (tuTo (sealL xs) k p 32) = true by unfold eqL; rw [hsame]; simp] at hinj
      clear hsl hk1 htl hE hD hbu hsame
      go_enter Try.func6, Try.ntmps6
      go_wp2_with (first
        | (go_at_call 21; (with_reducible refine (seal_any _ _ _ _ H.out HB.out hl1.out).mono ?_); rintro e w1 ⟨v1, rfl, ho1, hx1⟩; obtain ⟨A1, c1, rfl, hr1, _⟩ := ho1.read)
        | (go_at_call 27; (with_reducible refine (turn_any _ _ _ _ _ _ hr1 hsb.out hpos.out hl2.out hk2.out hp4.out).mono ?_); rintro e w2 ⟨v2, rfl, ho2, hx2⟩; obtain ⟨A2, c2, rfl, hr2, _⟩ := ho2.read; have hcap2 : Hid ((tuTo (sealL xs) k p 32).length ≤ c2) := ho2.cap)
        | (go_at_call 22; (with_reducible refine (open_any _ _ _ _ hr2 htb.out hcap2.out htl2.out).mono ?_); rintro e w3 ⟨v3, rfl, ho3, hx3⟩; have k1 := run_str (P := Try.prog) (hr1.ext (hx2.trans hx3)) 33 5 9 Try.underlying33 Try.underlying5 Try.underlying9 c1; have k2 := run_str (P := Try.prog) (hr2.ext hx3) 33 5 9 Try.underlying33 Try.underlying5 Try.underlying9 c2)
        | (go_at_call 20; (with_reducible refine (alive21_any _).mono ?_); rintro e w' ⟨rfl, hx⟩))
      go_ret
      exact ⟨ret_eq rfl, by (repeat (first | exact Ext.refl _ | assumption | (with_reducible refine Ext.alloc ?_ _) | (with_reducible refine Ext.drew ?_) | (with_reducible refine Ext.drewN ?_ _) | (refine Ext.trans ?_ (by assumption))))⟩
    · have hbf := hbu hsame
      have hE2 : openE (tuTo (sealL xs) k p 32) = 10 := by rw [hE, hbf]; rfl
      have hD2 : Hid (openD (tuTo (sealL xs) k p 32) = []) := by show _ = _; rw [hD, hbf]; rfl
      rw [show eqL (sealL xs) (tuTo (sealL xs) k p 32) = false by unfold eqL; exact decide_eq_false (fun e => hsame e.symm)] at hinj
      clear hsl hk1 htl hE hD hbu hsame hbf
      go_enter Try.func6, Try.ntmps6
      go_wp2_with (first
        | (go_at_call 21; (with_reducible refine (seal_any _ _ _ _ H.out HB.out hl1.out).mono ?_); rintro e w1 ⟨v1, rfl, ho1, hx1⟩; obtain ⟨A1, c1, rfl, hr1, _⟩ := ho1.read)
        | (go_at_call 27; (with_reducible refine (turn_any _ _ _ _ _ _ hr1 hsb.out hpos.out hl2.out hk2.out hp4.out).mono ?_); rintro e w2 ⟨v2, rfl, ho2, hx2⟩; obtain ⟨A2, c2, rfl, hr2, _⟩ := ho2.read; have hcap2 : Hid ((tuTo (sealL xs) k p 32).length ≤ c2) := ho2.cap)
        | (go_at_call 22; (with_reducible refine (open_any _ _ _ _ hr2 htb.out hcap2.out htl2.out).mono ?_); rintro e w3 ⟨v3, rfl, ho3, hx3⟩; rw [hD2.out] at ho3; obtain ⟨A3, c3, rfl, hr3, _⟩ := ho3.read; have k1 := run_str (P := Try.prog) (hr1.ext (hx2.trans hx3)) 33 5 9 Try.underlying33 Try.underlying5 Try.underlying9 c1; have k2 := run_str (P := Try.prog) (hr2.ext hx3) 33 5 9 Try.underlying33 Try.underlying5 Try.underlying9 c2)
        | (go_at_call 20; (with_reducible refine (alive21_any _).mono ?_); rintro e w' ⟨rfl, hx⟩))
      go_ret
      exact ⟨ret_eq rfl, by (repeat (first | exact Ext.refl _ | assumption | (with_reducible refine Ext.alloc ?_ _) | (with_reducible refine Ext.drew ?_) | (with_reducible refine Ext.drewN ?_ _) | (refine Ext.trans ?_ (by assumption))))⟩
end Go.Proofs.Ytkepmkdnmmofmaa
