/-
  Open and Turn of the reference of layer 21, walked. Conditions: slices that are read lie in memory; they are bytes; they are not too long to be copied.
-/
import Derived.Test.YtkepmkdnmmofmaaStr
set_option linter.unusedVariables false
set_option linter.unusedSimpArgs false
namespace Go.Proofs.Ytkepmkdnmmofmaa
open Go.RowKit

set_option maxHeartbeats 800000 in
theorem ropen_any (A : Option Addr) (c : Nat) (xs : List Int) (w : World) (h : RdK .u8 w A xs) (hb : Bytes xs) (hc : xs.length ≤ c) (hl : xs.length ≤ 140737488355000) :
    Calls Try.prog 23 #[.slice A xs.length c] w (RetOwnE 5 .u8 w (openD xs) (openE xs)) := by
  have H := Lib.hid h; clear h
  have HB := Lib.hid hb; clear hb
  have HL := Lib.hid hl
  by_cases h4 : xs.length < 4
  · have hE : Hid (openE xs = 2) := by show _ = _; simp [openE, h4]
    have hD : Hid (openD xs = []) := by show _ = _; simp [openD, h4]
    go_enter Try.func23, Try.ntmps23
    go_wp2
    go_ret2
    exact ⟨_, by rw [hE.out]; rfl, by rw [hD.out]; exact Own.nil _ _ _ _, Ext.refl _⟩
  · have htl : (openT xs).length = xs.length - 4 := by unfold openT; rw [List.length_take]; omega
    have htn : ((xs.length : Int) - 4).toNat = (openT xs).length := by omega
    have htl2 : (openT xs).length ≤ 140737488355000 := by omega
    have HT := Lib.hid htl2; clear htl2
    clear htl
    have hE : Hid (openE xs = if openB xs then 0 else 10) := by show _ = _; simp [openE, h4]
    have hD : Hid (openD xs = if openB xs then openT xs else []) := by show _ = _; simp [openD, h4]
    have hB : Hid (openB xs = eqL (sealL (openT xs)) xs) := rfl
    have HRT : Hid (RdK .u8 w A (openT xs)) := H.out.take _
    have HBT : Hid (Bytes (openT xs)) := HB.out.take _
    have hinj := strOf_inj (seal_bytes HBT.out) HB.out
    cases ho : eqL (sealL (openT xs)) xs
    · rw [ho] at hB hinj
      go_enter Try.func23, Try.ntmps23
      go_wp2_with (go_at_call 26; refine (rseal_any _ _ _ _ HRT.out HBT.out HT.out).mono ?_; rintro e w1 ⟨v1, rfl, ho1, hx1⟩; obtain ⟨A1, c1, rfl, hr1, _⟩ := ho1.read; have hk1 := run_str hr1 33 5 9 Try.underlying33 Try.underlying5 Try.underlying9 c1; have hk2 := run_str (H.out.ext hx1) 33 5 9 Try.underlying33 Try.underlying5 Try.underlying9 c)
      go_ret2
      exact ⟨_, by rw [hE.out, hB.out]; rfl, by rw [hD.out, hB.out]; exact Own.nil _ _ _ _, by (repeat (first | exact Ext.refl _ | assumption | refine Ext.alloc ?_ _ | refine Ext.drew ?_ | refine Ext.drewN ?_ _ | refine Ext.trans ?_ (by assumption)))⟩
    · rw [ho] at hB hinj
      go_enter Try.func23, Try.ntmps23
      go_wp2_with (first | (go_at_call 26; refine (rseal_any _ _ _ _ HRT.out HBT.out HT.out).mono ?_; rintro e w1 ⟨v1, rfl, ho1, hx1⟩; obtain ⟨A1, c1, rfl, hr1, _⟩ := ho1.read; have hk1 := run_str hr1 33 5 9 Try.underlying33 Try.underlying5 Try.underlying9 c1; have hk2 := run_str (H.out.ext hx1) 33 5 9 Try.underlying33 Try.underlying5 Try.underlying9 c) | (at_builtin; refine app_row (w0 := w) 1 Try.underlying33 Try.info5 (by decide) _ [] (openT xs) A c rfl rfl (Own.made0 _ _ _ _ hx1.size _ rfl) (hx1.alloc _) (HRT.out.ext (hx1.alloc _)) (by have := HT.out; simp; omega) ?_; intro v3 w3 ho3 hx3))
      go_ret2
      exact ⟨_, by rw [hE.out, hB.out]; rfl, by rw [hD.out, hB.out]; exact ho3, hx3⟩
end Go.Proofs.Ytkepmkdnmmofmaa
