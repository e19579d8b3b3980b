/-
  Open, of the package sum and of its reference. Conditions: slices that are read lie in memory; they are bytes; they are not too long to be copied.
-/
import Derived.Test.YtkepmkdnmmofmaaSeal
set_option linter.unusedVariables false
set_option linter.unusedSimpArgs false
namespace Go.Proofs.Ytkepmkdnmmofmaa
open Go.RowKit

def openT (xs : List Int) : List Int := xs.take (xs.length - 4)
def openB (xs : List Int) : Bool := eqL (sealL (openT xs)) xs
def openE (xs : List Int) : Int := if xs.length < 4 then 2 else if openB xs then 0 else 10
def openD (xs : List Int) : List Int := if xs.length < 4 then [] else if openB xs then openT xs else []
/-- A slice of the call's own, and an error's number, come back. -/
def RetOwnE (E : Nat) (q : IntKind) (w : World) (xs : List Int) (r : Int) (e : Ending) (w' : World) : Prop := ∃ v, e = .returned (.tuple #[v, .int .i64 r]) ∧ Own E q w.heap.size w' v xs ∧ Ext w w'
theorem RdK.take {q : IntKind} {w : World} {A : Option Addr} {xs : List Int} (h : RdK q w A xs) (n : Nat) : RdK q w A (xs.take n) := by
  refine ⟨Nat.le_trans (by rw [List.length_take]; omega) h.1, fun i hi => ?_⟩
  rw [List.length_take] at hi
  obtain ⟨ad, e1, hc⟩ := h.2 i (by omega)
  refine ⟨ad, e1, ?_⟩
  rw [hc]; simp [nth, List.getElem?_take, show i < n by omega]
theorem Bytes.take {xs : List Int} (h : Bytes xs) (n : Nat) : Bytes (xs.take n) := fun x hx => h x (List.mem_of_mem_take hx)

set_option maxHeartbeats 800000 in
theorem open_any (A : Option Addr) (c : Nat) (xs : List Int) (w : World) (h : RdK .u8 w A xs) (hb : Bytes xs) (hc : xs.length ≤ c) (hl : xs.length ≤ 140737488355000) :
    Calls Try.prog 22 #[.slice A xs.length c] w (RetOwnE 5 .u8 w (openD xs) (openE xs)) := by
  have H := Lib.hid h; clear h
  have HB := Lib.hid hb; clear hb
  have HL := Lib.hid hl
  by_cases h4 : xs.length < 4
  · have hE : Hid (openE xs = 2) := by show _ = _; simp [openE, h4]
    have hD : Hid (openD xs = []) := by show _ = _; simp [openD, h4]
    go_enter Try.func22, Try.ntmps22
    go_wp2
    go_ret2
    exact ⟨_, by rw [hE.out]; rfl, by rw [hD.out]; exact Own.nil _ _ _ _, Ext.refl _⟩
  · have htl : (openT xs).length = xs.length - 4 := by unfold openT; rw [List.length_take]; omega
    have htn : ((xs.length : Int) - 4).toNat = (openT xs).length := by omega
    have htl2 : (openT xs).length ≤ 140737488355000 := by omega
    have HT := Lib.hid htl2; clear htl2
    clear htl
    have hE : Hid (openE xs = if openB xs then 0 else 10) := by show _ = _; simp [openE, h4]
    have hD : Hid (openD xs = if openB xs then openT xs else []) := by show _ = _; simp [openD, h4]
    have hB : Hid (openB xs = eqL (sealL (openT xs)) xs) := rfl
    have HRT : Hid (RdK .u8 w A (openT xs)) := H.out.take _
    have HBT : Hid (Bytes (openT xs)) := HB.out.take _
    cases ho : eqL (sealL (openT xs)) xs
    · rw [ho] at hB
      go_enter Try.func22, Try.ntmps22
      go_wp2_with (first | (go_at_call 21; refine (seal_any _ _ _ _ HRT.out HBT.out HT.out).mono ?_; rintro e w1 ⟨v1, rfl, ho1, hx1⟩; obtain ⟨A1, c1, rfl, hr1, _⟩ := ho1.read) | (go_at_call 60; refine (equalB_any _ _ _ _ _ _ _ hr1 (H.out.ext hx1)).mono ?_; rintro e w2 ⟨rfl, hx2⟩))
      go_ret2
      exact ⟨_, by rw [hE.out, hB.out]; rfl, by rw [hD.out, hB.out]; exact Own.nil _ _ _ _, by (repeat (first | exact Ext.refl _ | assumption | refine Ext.alloc ?_ _ | refine Ext.drew ?_ | refine Ext.drewN ?_ _ | refine Ext.trans ?_ (by assumption)))⟩
    · rw [ho] at hB
      go_enter Try.func22, Try.ntmps22
      go_wp2_with (first | (go_at_call 21; refine (seal_any _ _ _ _ HRT.out HBT.out HT.out).mono ?_; rintro e w1 ⟨v1, rfl, ho1, hx1⟩; obtain ⟨A1, c1, rfl, hr1, _⟩ := ho1.read) | (go_at_call 60; refine (equalB_any _ _ _ _ _ _ _ hr1 (H.out.ext hx1)).mono ?_; rintro e w2 ⟨rfl, hx2⟩) | (go_at_call 59; refine (cloneB_any _ _ _ _ (HRT.out.ext (hx1.trans hx2)) (by have := HT.out; omega)).mono ?_; rintro e w3 ⟨v3, rfl, ho3, hx3⟩))
      go_ret2
      exact ⟨_, by rw [hE.out, hB.out]; rfl, by rw [hD.out, hB.out]; exact ho3.lower (hx1.trans hx2).size, by (repeat (first | exact Ext.refl _ | assumption | refine Ext.alloc ?_ _ | refine Ext.drew ?_ | refine Ext.drewN ?_ _ | refine Ext.trans ?_ (by assumption)))⟩
end Go.Proofs.Ytkepmkdnmmofmaa
