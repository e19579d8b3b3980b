/-
  The law OctetsWrites, walked. Conditions: none but that the slice lies in memory.
-/
import Derived.Test.YtkepmkdnmmofmaaLaw20
set_option linter.unusedVariables false
set_option linter.unusedSimpArgs false
namespace Go.Proofs.Ytkepmkdnmmofmaa
open Go.RowKit

set_option maxRecDepth 20000 in
set_option maxHeartbeats 4000000 in
theorem writes_any (A : Option Addr) (c : Nat) (ls : List Int) (w : World) (h : RdK .i64 w A ls) : Calls Try.prog 10 #[.slice A ls.length c] w fun e w' => e = .returned (.bool true) ∧ Ext w w' := by
  have H := Lib.hid h; clear h
  by_cases hl : 200 < ls.length
  · go_enter Try.func10, Try.ntmps10
    go_wp2_with (go_at_call 42; (with_reducible refine (alive20_any _).mono ?_); rintro e w' ⟨rfl, hx⟩)
    go_ret
    exact ⟨ret_eq rfl, by (repeat (first | exact Ext.refl _ | assumption | (with_reducible refine Ext.alloc ?_ _) | (with_reducible refine Ext.drew ?_) | (with_reducible refine Ext.drewN ?_ _) | (refine Ext.trans ?_ (by assumption))))⟩
  · have hel := encF_length ls ls.length
    have HL : Hid (([] : List Int).length + 6 * ls.length ≤ 140737488355000) := by show _ ≤ _; simp; omega
    have HL2 : Hid (ls.length ≤ 1000000) := by show _ ≤ _; omega
    have HA : Hid (∀ ad, A = some ad → 0 < ls.length → ¬ WF w.heap.size (.slice none 0 0) ad.block) := by
      rintro ad e h0 (h1 | h1)
      · have := H.out.blk ad e h0; omega
      · simp [Value.ownBlock] at h1
    have hm := encF_length ls ls.length
    obtain ⟨L, E, bad, hw, hb, hE⟩ : ∃ (L : List Int) (E : Int) (bad : Bool), (∀ w' v, Wr w.heap.size w' w.heap.size v ([] ++ encF ls ls.length) (false || badF ls ls.length) → ∃ K, Wr w.heap.size w' w.heap.size v K bad ∧ K.length ≤ 140737488355328 ∧ (if bad then [] else K) = L) ∧ (putL ls = L ∧ putE ls = E) ∧ E = (if bad then 1 else 0) := by
      refine ⟨_, _, badF ls ls.length, ?_, ⟨rfl, rfl⟩, rfl⟩
      intro w' v hw
      refine ⟨encF ls ls.length, by simpa using hw, by omega, rfl⟩
    have HW := Lib.hid hw; clear hw
    have HP := Lib.hid hb; clear hb
    have HE := Lib.hid hE; clear hE
    have hEE : ((if bad = true then (1 : Int) else 0) == E) = true := by rw [HE.out]; simp
    have hBY : ∀ (w1 : World) v K, Wr w.heap.size w1 w.heap.size v K bad → K.length ≤ 140737488355328 → (if bad then [] else K) = L → Calls Try.prog 44 #[.pointer (some ⟨w.heap.size, 0, none⟩)] w1 (RetOwnE 5 .u8 w1 L E) := by
      intro w1 v K h1 h2 h3
      have := wbytes_any _ _ _ _ _ _ h1 h2
      rw [h3, ← HE.out] at this
      exact this
    have HB := Lib.hid hBY; clear hBY hEE
    have hRP : ∀ w1, Ext w w1 → Calls Try.prog 45 #[.slice A ls.length c] w1 (RetOwnE 5 .u8 w1 L E) := by
      intro w1 hx
      have := rput_any A c ls w1 (H.out.ext hx) HL2.out
      rw [HP.out.1, HP.out.2] at this
      exact this
    have HR := Lib.hid hRP; clear hRP
    clear hel hm
    go_enter Try.func10, Try.ntmps10
    go_wp2_with (first
      | (go_at_call 43; (with_reducible refine (put_any w.heap.size _ _ _ _ _ _ _ _ (H.out.ext ((Ext.refl _).alloc _)) (Wr.new _ _ _ rfl (Nat.le_refl _)) HA.out HL.out).mono ?_); rintro e w1 ⟨rfl, v1, hw1, hc1, hf1⟩; obtain ⟨K, hk1, hk2, hk3⟩ := HW.out _ _ hw1; have hx1 : Ext w w1 := ((((Ext.refl w).alloc _).chg (fun i => w.heap.size ≤ i)).trans hc1 (fun i _ h => (Wr.new _ _ _ rfl (Nat.le_refl _)).base h)).low (fun i hi h => Nat.lt_irrefl _ (Nat.lt_of_lt_of_le hi h)))
      | (go_at_call 44; (with_reducible refine (HB.out _ _ _ hk1 hk2 hk3).mono ?_); rintro e w2 ⟨v2, rfl, ho2, hx2⟩; obtain ⟨A2, c2, rfl, hr2, _⟩ := ho2.read)
      | (go_at_call 45; (with_reducible refine (HR.out _ (hx1.trans hx2)).mono ?_); rintro e w3 ⟨v3, rfl, ho3, hx3⟩; obtain ⟨A3, c3, rfl, hr3, _⟩ := ho3.read)
      | (go_at_call 43; (with_reducible refine (put_zero _ _ _ _ _ _ (hk1.ext (hx2.trans hx3))).mono ?_); rintro e w' ⟨rfl, rfl⟩)
      | (go_at_call 44; (with_reducible refine (HB.out _ _ _ (hk1.ext (hx2.trans hx3)) hk2 hk3).mono ?_); rintro e w4 ⟨v4, rfl, ho4, hx4⟩; obtain ⟨A4, c4, rfl, hr4, _⟩ := ho4.read)
      | (go_at_call 43; (with_reducible refine (wput_nil _ _).mono ?_); rintro e w' ⟨rfl, rfl⟩)
      | (go_at_call 44; (with_reducible refine (wbytes_nil _).mono ?_); rintro e w' ⟨rfl, rfl⟩)
      | (go_at_call 42; (with_reducible refine (alive20_any _).mono ?_); rintro e w5 ⟨rfl, hx5⟩; have g : Ext w4 w5 := (((Ext.refl w4).alloc _)).trans hx5; have k2 := run_str (P := Try.prog) (hr2.ext ((hx3.trans hx4).trans g)) 33 5 9 Try.underlying33 Try.underlying5 Try.underlying9 c2; have k3 := run_str (P := Try.prog) (hr3.ext (hx4.trans g)) 33 5 9 Try.underlying33 Try.underlying5 Try.underlying9 c3; have k4 := run_str (P := Try.prog) (hr4.ext g) 33 5 9 Try.underlying33 Try.underlying5 Try.underlying9 c4))
    go_ret
    exact ⟨ret_eq rfl, by (repeat (first | exact Ext.refl _ | assumption | (with_reducible refine Ext.alloc ?_ _) | (with_reducible refine Ext.drew ?_) | (with_reducible refine Ext.drewN ?_ _) | (refine Ext.trans ?_ (by assumption))))⟩
end Go.Proofs.Ytkepmkdnmmofmaa
