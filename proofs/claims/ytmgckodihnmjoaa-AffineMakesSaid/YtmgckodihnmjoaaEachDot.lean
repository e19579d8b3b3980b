/-
  vec.each, a vector made place by place, walked, one version for each function that it is handed. Conditions: the function only reads and makes. (Printed by tools/geneach.py.)
-/
import Derived.Test.YtmgckodihnmjoaaVec
set_option linter.unusedVariables false
set_option linter.unusedSimpArgs false
namespace Go.Proofs.Ytmgckodihnmjoaa
open Go.RowKit
set_option maxRecDepth 20000 in
set_option maxHeartbeats 3200000 in
theorem eachDot_any (c0 c1 : Value) (R E : Nat → Int) (w : World)
    (hf : ∀ k : Nat, k < 3 → ∀ w1, Ext w w1 → Calls Try.prog 81 #[.int .i64 (k : Int), c0, c1] w1 fun e w' => e = .returned (.tuple #[.int .i64 (R k), .int .i64 (E k)]) ∧ Ext w1 w') :
    Calls Try.prog 75 #[.func (.func 81) #[] #[c0, c1]] w (RetV w (e3 (E 0) (E 1) (E 2)) (r3 (E 0) (E 1) (E 2) (R 0)) (r3 (E 0) (E 1) (E 2) (R 1)) (r3 (E 0) (E 1) (E 2) (R 2))) := by
  have hf0 : ∀ w1, Ext w w1 → Calls Try.prog 81 #[.int .i64 0, c0, c1] w1 fun e w' => e = .returned (.tuple #[.int .i64 (R 0), .int .i64 (E 0)]) ∧ Ext w1 w' := hf 0 (by decide)
  have hf1 : ∀ w1, Ext w w1 → Calls Try.prog 81 #[.int .i64 1, c0, c1] w1 fun e w' => e = .returned (.tuple #[.int .i64 (R 1), .int .i64 (E 1)]) ∧ Ext w1 w' := hf 1 (by decide)
  have hf2 : ∀ w1, Ext w w1 → Calls Try.prog 81 #[.int .i64 2, c0, c1] w1 fun e w' => e = .returned (.tuple #[.int .i64 (R 2), .int .i64 (E 2)]) ∧ Ext w1 w' := hf 2 (by decide)
  have HF0 := Lib.hid hf0; have HF1 := Lib.hid hf1; have HF2 := Lib.hid hf2
  clear hf hf0 hf1 hf2
  generalize R 0 = r0 at *
  generalize R 1 = r1 at *
  generalize R 2 = r2 at *
  generalize E 0 = x0 at *
  generalize E 1 = x1 at *
  generalize E 2 = x2 at *
  obtain ⟨gr, hgr⟩ : ∃ g, g = w.heap.size := ⟨_, rfl⟩
  obtain ⟨go, hgo⟩ : ∃ g, g = w.heap.size + 1 := ⟨_, rfl⟩
  have hs0 : Each2 w ((w.alloc (.cells #[.int .i64 0, .int .i64 0, .int .i64 0] 24)).alloc (.cells #[.int .i64 0, .int .i64 0, .int .i64 0] 24)) gr go (.int .i64 0) (.int .i64 0) (.int .i64 0) :=
    ⟨((Ext.refl _).alloc _).alloc _, (Lies.new w _ _ gr hgr).ext ((Ext.refl _).alloc _), Lies.new _ _ _ go (by simp [hgo])⟩
  have hl1 : w.heap.size ≤ go := by omega
  have hl0 : w.heap.size ≤ gr := by omega
  have hl2 : go ≠ gr := by omega
  by_cases h0 : x0 = 0
  · subst h0
    by_cases h1 : x1 = 0
    · subst h1
      by_cases h2 : x2 = 0
      · subst h2
        go_enter Try.func75, Try.ntmps75
        go_wp2
        rw [← hgo, ← hgr]
        clear hgo hgr
        generalize (w.alloc (.cells #[.int .i64 0, .int .i64 0, .int .i64 0] 24)).alloc (.cells #[.int .i64 0, .int .i64 0, .int .i64 0] 24) = wa at *
        have HS0 := Lib.hid hs0; clear hs0
        refine wp_loop_rounds 4 ?_
        rw [rounds_succ]
        go_wp2_with (go_at_call 81; (refine (HF0.out _ HS0.out.ext).mono ?_); rintro e w1 ⟨rfl, hx0⟩; have ht0 := HS0.out.next hx0; obtain ⟨⟨b0, b1⟩, ⟨b2, b3⟩, b4, b5⟩ := ht0.out.three)
        have HS1 := Lib.hid (ht0.set0 hl1 hl2 (.int .i64 r0))
        clear ht0 hx0 b0 b1 b2 b3 b4 b5
        generalize w1.setCell ⟨go, 0, none⟩ (.int .i64 r0) = wb0 at *
        rw [rounds_succ]
        go_wp2_with (go_at_call 81; (refine (HF1.out _ HS1.out.ext).mono ?_); rintro e w2 ⟨rfl, hx1⟩; have ht1 := HS1.out.next hx1; obtain ⟨⟨b0, b1⟩, ⟨b2, b3⟩, b4, b5⟩ := ht1.out.three)
        have HS2 := Lib.hid (ht1.set1 hl1 hl2 (.int .i64 r1))
        clear ht1 hx1 b0 b1 b2 b3 b4 b5
        generalize w2.setCell ⟨go, 1, none⟩ (.int .i64 r1) = wb1 at *
        rw [rounds_succ]
        go_wp2_with (go_at_call 81; (refine (HF2.out _ HS2.out.ext).mono ?_); rintro e w3 ⟨rfl, hx2⟩; have ht2 := HS2.out.next hx2; obtain ⟨⟨b0, b1⟩, ⟨b2, b3⟩, b4, b5⟩ := ht2.out.three)
        have HS3 := Lib.hid (ht2.set2 hl1 hl2 (.int .i64 r2))
        clear ht2 hx2 b0 b1 b2 b3 b4 b5
        generalize w3.setCell ⟨go, 2, none⟩ (.int .i64 r2) = wb2 at *
        rw [rounds_succ]
        obtain ⟨⟨b0, b1⟩, ⟨b2, b3⟩, b4, b5⟩ := HS3.out.out.three
        obtain ⟨⟨b6, b7⟩, ⟨b8, b9⟩, b10, b11⟩ := HS3.out.res.three
        go_wp2
        have hz := (((HS3.out.res.set 0 (.int .i64 r0)).set 1 (.int .i64 r1)).set 2 (.int .i64 r2))
        have hxz : Ext w (((wb2.setCell ⟨gr, 0, none⟩ (.int .i64 r0)).setCell ⟨gr, 1, none⟩ (.int .i64 r1)).setCell ⟨gr, 2, none⟩ (.int .i64 r2)) := ((HS3.out.ext.set hl0 _).set hl0 _).set hl0 _
        have HZ := Lib.hid (show Lies _ gr #[.int .i64 r0, .int .i64 r1, .int .i64 r2] 24 from hz)
        have HXZ := Lib.hid hxz
        clear hz hxz b0 b1 b2 b3 b4 b5 b6 b7 b8 b9 b10 b11
        generalize (((wb2.setCell ⟨gr, 0, none⟩ (.int .i64 r0)).setCell ⟨gr, 1, none⟩ (.int .i64 r1)).setCell ⟨gr, 2, none⟩ (.int .i64 r2)) = wz at *
        obtain ⟨⟨k0, _⟩, ⟨k1, _⟩, k2, _⟩ := HZ.out.three
        refine bodyPost_ret (v := .tuple #[.agg #[.int .i64 r0, .int .i64 r1, .int .i64 r2], .int .i64 0]) (by simp [results, Try.results75, go_sem, k0, k1, k2]) rfl ⟨?_, HXZ.out⟩
        simp [e3, r3]
      · go_enter Try.func75, Try.ntmps75
        go_wp2
        rw [← hgo, ← hgr]
        clear hgo hgr
        generalize (w.alloc (.cells #[.int .i64 0, .int .i64 0, .int .i64 0] 24)).alloc (.cells #[.int .i64 0, .int .i64 0, .int .i64 0] 24) = wa at *
        have HS0 := Lib.hid hs0; clear hs0
        refine wp_loop_rounds 4 ?_
        rw [rounds_succ]
        go_wp2_with (go_at_call 81; (refine (HF0.out _ HS0.out.ext).mono ?_); rintro e w1 ⟨rfl, hx0⟩; have ht0 := HS0.out.next hx0; obtain ⟨⟨b0, b1⟩, ⟨b2, b3⟩, b4, b5⟩ := ht0.out.three)
        have HS1 := Lib.hid (ht0.set0 hl1 hl2 (.int .i64 r0))
        clear ht0 hx0 b0 b1 b2 b3 b4 b5
        generalize w1.setCell ⟨go, 0, none⟩ (.int .i64 r0) = wb0 at *
        rw [rounds_succ]
        go_wp2_with (go_at_call 81; (refine (HF1.out _ HS1.out.ext).mono ?_); rintro e w2 ⟨rfl, hx1⟩; have ht1 := HS1.out.next hx1; obtain ⟨⟨b0, b1⟩, ⟨b2, b3⟩, b4, b5⟩ := ht1.out.three)
        have HS2 := Lib.hid (ht1.set1 hl1 hl2 (.int .i64 r1))
        clear ht1 hx1 b0 b1 b2 b3 b4 b5
        generalize w2.setCell ⟨go, 1, none⟩ (.int .i64 r1) = wb1 at *
        rw [rounds_succ]
        go_wp2_with (go_at_call 81; (refine (HF2.out _ HS2.out.ext).mono ?_); rintro e w3 ⟨rfl, hx2⟩; have ht2 := HS2.out.next hx2; obtain ⟨⟨b6, b7⟩, ⟨b8, b9⟩, b10, b11⟩ := ht2.res.three)
        have hz := (((ht2.res.set 0 (.int .i64 0)).set 1 (.int .i64 0)).set 2 (.int .i64 0))
        have hxz : Ext w (((w3.setCell ⟨gr, 0, none⟩ (.int .i64 0)).setCell ⟨gr, 1, none⟩ (.int .i64 0)).setCell ⟨gr, 2, none⟩ (.int .i64 0)) := ((ht2.ext.set hl0 _).set hl0 _).set hl0 _
        have HZ := Lib.hid (show Lies _ gr #[.int .i64 0, .int .i64 0, .int .i64 0] 24 from hz)
        have HXZ := Lib.hid hxz
        clear hz hxz b6 b7 b8 b9 b10 b11
        generalize (((w3.setCell ⟨gr, 0, none⟩ (.int .i64 0)).setCell ⟨gr, 1, none⟩ (.int .i64 0)).setCell ⟨gr, 2, none⟩ (.int .i64 0)) = wz at *
        obtain ⟨⟨k0, _⟩, ⟨k1, _⟩, k2, _⟩ := HZ.out.three
        refine bodyPost_ret (v := .tuple #[.agg #[.int .i64 0, .int .i64 0, .int .i64 0], .int .i64 x2]) (by simp [results, Try.results75, go_sem, k0, k1, k2]) rfl ⟨?_, HXZ.out⟩
        simp [e3, r3, h2]
    · go_enter Try.func75, Try.ntmps75
      go_wp2
      rw [← hgo, ← hgr]
      clear hgo hgr
      generalize (w.alloc (.cells #[.int .i64 0, .int .i64 0, .int .i64 0] 24)).alloc (.cells #[.int .i64 0, .int .i64 0, .int .i64 0] 24) = wa at *
      have HS0 := Lib.hid hs0; clear hs0
      refine wp_loop_rounds 4 ?_
      rw [rounds_succ]
      go_wp2_with (go_at_call 81; (refine (HF0.out _ HS0.out.ext).mono ?_); rintro e w1 ⟨rfl, hx0⟩; have ht0 := HS0.out.next hx0; obtain ⟨⟨b0, b1⟩, ⟨b2, b3⟩, b4, b5⟩ := ht0.out.three)
      have HS1 := Lib.hid (ht0.set0 hl1 hl2 (.int .i64 r0))
      clear ht0 hx0 b0 b1 b2 b3 b4 b5
      generalize w1.setCell ⟨go, 0, none⟩ (.int .i64 r0) = wb0 at *
      rw [rounds_succ]
      go_wp2_with (go_at_call 81; (refine (HF1.out _ HS1.out.ext).mono ?_); rintro e w2 ⟨rfl, hx1⟩; have ht1 := HS1.out.next hx1; obtain ⟨⟨b6, b7⟩, ⟨b8, b9⟩, b10, b11⟩ := ht1.res.three)
      have hz := (((ht1.res.set 0 (.int .i64 0)).set 1 (.int .i64 0)).set 2 (.int .i64 0))
      have hxz : Ext w (((w2.setCell ⟨gr, 0, none⟩ (.int .i64 0)).setCell ⟨gr, 1, none⟩ (.int .i64 0)).setCell ⟨gr, 2, none⟩ (.int .i64 0)) := ((ht1.ext.set hl0 _).set hl0 _).set hl0 _
      have HZ := Lib.hid (show Lies _ gr #[.int .i64 0, .int .i64 0, .int .i64 0] 24 from hz)
      have HXZ := Lib.hid hxz
      clear hz hxz b6 b7 b8 b9 b10 b11
      generalize (((w2.setCell ⟨gr, 0, none⟩ (.int .i64 0)).setCell ⟨gr, 1, none⟩ (.int .i64 0)).setCell ⟨gr, 2, none⟩ (.int .i64 0)) = wz at *
      obtain ⟨⟨k0, _⟩, ⟨k1, _⟩, k2, _⟩ := HZ.out.three
      refine bodyPost_ret (v := .tuple #[.agg #[.int .i64 0, .int .i64 0, .int .i64 0], .int .i64 x1]) (by simp [results, Try.results75, go_sem, k0, k1, k2]) rfl ⟨?_, HXZ.out⟩
      simp [e3, r3, h1]
  · go_enter Try.func75, Try.ntmps75
    go_wp2
    rw [← hgo, ← hgr]
    clear hgo hgr
    generalize (w.alloc (.cells #[.int .i64 0, .int .i64 0, .int .i64 0] 24)).alloc (.cells #[.int .i64 0, .int .i64 0, .int .i64 0] 24) = wa at *
    have HS0 := Lib.hid hs0; clear hs0
    refine wp_loop_rounds 4 ?_
    rw [rounds_succ]
    go_wp2_with (go_at_call 81; (refine (HF0.out _ HS0.out.ext).mono ?_); rintro e w1 ⟨rfl, hx0⟩; have ht0 := HS0.out.next hx0; obtain ⟨⟨b6, b7⟩, ⟨b8, b9⟩, b10, b11⟩ := ht0.res.three)
    have hz := (((ht0.res.set 0 (.int .i64 0)).set 1 (.int .i64 0)).set 2 (.int .i64 0))
    have hxz : Ext w (((w1.setCell ⟨gr, 0, none⟩ (.int .i64 0)).setCell ⟨gr, 1, none⟩ (.int .i64 0)).setCell ⟨gr, 2, none⟩ (.int .i64 0)) := ((ht0.ext.set hl0 _).set hl0 _).set hl0 _
    have HZ := Lib.hid (show Lies _ gr #[.int .i64 0, .int .i64 0, .int .i64 0] 24 from hz)
    have HXZ := Lib.hid hxz
    clear hz hxz b6 b7 b8 b9 b10 b11
    generalize (((w1.setCell ⟨gr, 0, none⟩ (.int .i64 0)).setCell ⟨gr, 1, none⟩ (.int .i64 0)).setCell ⟨gr, 2, none⟩ (.int .i64 0)) = wz at *
    obtain ⟨⟨k0, _⟩, ⟨k1, _⟩, k2, _⟩ := HZ.out.three
    refine bodyPost_ret (v := .tuple #[.agg #[.int .i64 0, .int .i64 0, .int .i64 0], .int .i64 x0]) (by simp [results, Try.results75, go_sem, k0, k1, k2]) rfl ⟨?_, HXZ.out⟩
    simp [e3, r3, h0]
end Go.Proofs.Ytmgckodihnmjoaa
