/-
  The laws of layer 5: the live question, walked; what takings and droppings keep. Conditions: none.
-/
import Derived.Test.YtacfcfllbadhcaaPool4
set_option linter.unusedVariables false
set_option linter.unusedSimpArgs false
namespace Go.Proofs.Ytacfcfllbadhcaa
open Go.RowKit

theorem freeF_free {g : Nat → Nat} {l : Nat → Bool} {k : Nat} (h : freeF g l k < k) : freeB g l (freeF g l k) = true := by
  induction k with
  | zero => omega
  | succ k ih =>
    simp only [freeF] at h ⊢
    split
    · rename_i h1; exact ih h1
    · rename_i h1
      rw [if_neg h1] at h
      split
      · assumption
      · rename_i h2; rw [if_neg h2] at h; omega
theorem GenOk.take {r : Nat} {g : Nat → Nat} {l : Nat → Bool} (h : GenOk r g l) : GenOk r g (takeL g l r) := by
  refine ⟨h.room, h.all, fun i hi => ?_⟩
  unfold takeL at hi
  split at hi
  · rename_i h1
    by_cases e : i = freeF g l r
    · have := freeF_free h1
      rw [← e] at this
      simp only [freeB, Bool.and_eq_true, decide_eq_true_eq] at this
      exact this.2
    · rw [upd_ne _ _ _ e] at hi; exact h.lives i hi
  · exact h.lives i hi
theorem GenOk.drop {r : Nat} {g : Nat → Nat} {l : Nat → Bool} (h : GenOk r g l) (id : Int) : GenOk r (dropG g l id) (dropL g l id) := by
  unfold dropG dropL
  split
  · rename_i h1
    have h2 := (live_right h1).2.2.2
    have h3 := h.lives _ h2
    refine ⟨h.room, fun i => ?_, fun i hi => ?_⟩
    · unfold upd; split
      · omega
      · exact h.all i
    · unfold upd at hi ⊢
      split at hi
      · simp at hi
      · rename_i e; rw [if_neg e]; exact h.lives i hi
  · exact h
theorem dropped {g : Nat → Nat} {l : Nat → Bool} (id : Int) : liveV (dropG g l id) (dropL g l id) id = false := by
  cases h : liveV g l id
  · simp [dropG, dropL, h]
  · have e : dropL g l id (id % 256).toNat = false := by simp [dropL, h, upd_same]
    show (rightB id && dropL g l id (id % 256).toNat && _) = false
    rw [e]; simp
set_option maxRecDepth 20000 in
set_option maxHeartbeats 4000000 in
theorem alive05_any (w : World) : Calls Try.prog 8 #[] w fun e w' => e = .returned (.bool true) ∧ Ext w w' := by
  obtain ⟨l1, hl1⟩ : ∃ l, l = takeL g0 l0 2 := ⟨_, rfl⟩
  obtain ⟨l2, hl2⟩ : ∃ l, l = takeL g0 l1 2 := ⟨_, rfl⟩
  obtain ⟨l3, hl3⟩ : ∃ l, l = dropL g0 l2 0 := ⟨_, rfl⟩
  obtain ⟨g3, hg3⟩ : ∃ g, g = dropG g0 l2 0 := ⟨_, rfl⟩
  obtain ⟨l4, hl4⟩ : ∃ l, l = takeL g3 l3 2 := ⟨_, rfl⟩
  have k1 := genOk0 (r := 2) (by decide)
  have k2 : GenOk 2 g0 l1 := by rw [hl1]; exact k1.take
  have k3 : GenOk 2 g0 l2 := by rw [hl2]; exact k2.take
  have k4 : GenOk 2 g3 l3 := by rw [hl3, hg3]; exact k3.drop 0
  have k5 : GenOk 2 g3 l4 := by rw [hl4]; exact k4.take
  have f1 : takeV g0 l0 2 = 0 ∧ takeE g0 l0 2 = 0 := by decide +kernel
  have f2 : takeV g0 l1 2 = 1 ∧ takeE g0 l1 2 = 0 := by subst hl1; decide +kernel
  have f3 : takeE g0 l2 2 = 3 ∧ takeV g0 l2 2 = 0 := by subst hl2 hl1; decide +kernel
  have f3' : takeL g0 l2 2 = l2 := by
    have : ¬ freeF g0 l2 2 < 2 := by subst hl2 hl1; decide +kernel
    simp [takeL, this]
  have f4 : liveV g0 l2 0 = true := by subst hl2 hl1; decide +kernel
  have f5 : takeV g3 l3 2 = 256 ∧ takeE g3 l3 2 = 0 := by subst hl3 hg3 hl2 hl1; decide +kernel
  have f6 : liveV g3 l4 0 = false ∧ liveV g3 l4 256 = true := by subst hl4 hl3 hg3 hl2 hl1; decide +kernel
  have f7 : (allP g3 l4).length = 2 := by subst hl4 hl3 hg3 hl2 hl1; decide +kernel
  have f8 : genV 256 = 1 ∧ ixV 256 = 0 := by decide
  have K1 := Lib.hid k1; have K2 := Lib.hid k2; have K3 := Lib.hid k3; have K4 := Lib.hid k4; have K5 := Lib.hid k5
  have F1 := Lib.hid f1; have F2 := Lib.hid f2; have F3 := Lib.hid f3; have F3' := Lib.hid f3'; have F4 := Lib.hid f4; have F5 := Lib.hid f5; have F6 := Lib.hid f6; have F7 := Lib.hid f7; have F8 := Lib.hid f8
  have L1 := Lib.hid hl1; have L2 := Lib.hid hl2; have L3 := Lib.hid hl3; have L4 := Lib.hid hl4; have G3 := Lib.hid hg3
  clear k1 k2 k3 k4 k5 f1 f2 f3 f3' f4 f5 f6 f7 f8 hl1 hl2 hl3 hl4 hg3
  go_enter Try.func8, Try.ntmps8
  go_wp2_with (first
    | (go_at_call 9; (refine (pnew_any 2 _ (by decide)).mono ?_); rintro e w1 ⟨rfl, hp1, hx1⟩)
    | (go_at_call 10; (with_reducible refine (ptake_any _ _ _ _ _ hp1 K1.out).mono ?_); rintro e w2 ⟨rfl, hp2, hc2⟩; rw [F1.out.1, F1.out.2]; rw [← L1.out] at hp2)
    | (go_at_call 10; (with_reducible refine (ptake_any _ _ _ _ _ hp2 K2.out).mono ?_); rintro e w3 ⟨rfl, hp3, hc3⟩; rw [F2.out.1, F2.out.2]; rw [← L2.out] at hp3)
    | (go_at_call 10; (with_reducible refine (ptake_any _ _ _ _ _ hp3 K3.out).mono ?_); rintro e w4 ⟨rfl, hp4, hc4⟩; rw [F3.out.1, F3.out.2]; rw [F3'.out] at hp4)
    | (go_at_call 13; (with_reducible refine (pdrop_any _ _ _ _ 0 _ hp4 K3.out).mono ?_); rintro e w5 ⟨rfl, hp5, hc5⟩; rw [F4.out]; rw [← L3.out, ← G3.out] at hp5)
    | (go_at_call 10; (with_reducible refine (ptake_any _ _ _ _ _ hp5 K4.out).mono ?_); rintro e w6 ⟨rfl, hp6, hc6⟩; rw [F5.out.1, F5.out.2]; rw [← L4.out] at hp6)
    | (go_at_call 15; (with_reducible refine (plive_any _ _ _ _ 0 _ hp6 K5.out).mono ?_); rintro e w7 ⟨rfl, rfl⟩; rw [F6.out.1])
    | (go_at_call 15; (with_reducible refine (plive_any _ _ _ _ 256 _ hp6 K5.out).mono ?_); rintro e w7 ⟨rfl, rfl⟩; rw [F6.out.2])
    | (go_at_call 22; (with_reducible refine (pgen_any 256 _).mono ?_); rintro e w7 ⟨rfl, rfl⟩; rw [F8.out.1])
    | (go_at_call 21; (with_reducible refine (pindex_any 256 _).mono ?_); rintro e w7 ⟨rfl, rfl⟩; rw [F8.out.2])
    | (go_at_call 19; (with_reducible refine (plen_any _ _ _ _ _ hp6 K5.out).mono ?_); rintro e w8 ⟨rfl, hx8⟩; rw [F7.out]))
  go_ret
  refine ⟨ret_eq rfl, ?_⟩
  have d := (((((hx1.chg (fun i => i = w.heap.size)).trans hc2 (fun _ _ h => h)).trans hc3 (fun _ _ h => h)).trans hc4 (fun _ _ h => h)).trans hc5 (fun _ _ h => h)).trans hc6 (fun _ _ h => h)
  exact (d.ext hx8).low (fun i hi h => by omega)
end Go.Proofs.Ytacfcfllbadhcaa
