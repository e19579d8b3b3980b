/-
  The reference of layer 2: differences; walked. Conditions: none. (Printed by tools/genref02b.py.)
-/
import Derived.Test.YtmgckodihnmjoaaRef02a
set_option linter.unusedVariables false
set_option linter.unusedSimpArgs false
namespace Go.Proofs.Ytmgckodihnmjoaa
open Go.RowKit

theorem subR_no {a b : Int} (h : inB (a - b) = false) : subR a b = 0 ∧ subE a b = 6 := ⟨outR_f h, outE_f h⟩
theorem subR_yes {a b : Int} (h : inB (a - b) = true) : subR a b = a - b ∧ subE a b = 0 := ⟨outR_t h, outE_t h⟩
theorem inB_bd {x : Int} (h : inB x = true) : -2147483648 ≤ x ∧ x ≤ 2147483647 := (inB_iff x).1 h
set_option maxRecDepth 20000 in
set_option maxHeartbeats 3200000 in
theorem rvsub_any (x y z x' y' z' : Int) (w : World) : Calls Try.prog 21 #[.agg #[.int .i64 x, .int .i64 y, .int .i64 z], .agg #[.int .i64 x', .int .i64 y', .int .i64 z']] w (RetV w (subvE x y z x' y' z') (subvR x y z x' y' z' x x') (subvR x y z x' y' z' y y') (subvR x y z x' y' z' z z')) := by
  have hl0 : w.heap.size ≤ w.heap.size + 1 + 1 := by omega
  have hb := (Lies.new w #[.int .i64 x, .int .i64 y, .int .i64 z] 24 _ rfl).ext (w' := (((w.alloc (.cells #[.int .i64 x, .int .i64 y, .int .i64 z] 24)).alloc (.cells #[.int .i64 x', .int .i64 y', .int .i64 z'] 24)).alloc (.cells #[.int .i64 0, .int .i64 0, .int .i64 0] 24))) (((Ext.refl _).alloc _).alloc _)
  have hc := (Lies.new (w.alloc (.cells #[.int .i64 x, .int .i64 y, .int .i64 z] 24)) #[.int .i64 x', .int .i64 y', .int .i64 z'] 24 (w.heap.size + 1) (by simp)).ext (w' := (((w.alloc (.cells #[.int .i64 x, .int .i64 y, .int .i64 z] 24)).alloc (.cells #[.int .i64 x', .int .i64 y', .int .i64 z'] 24)).alloc (.cells #[.int .i64 0, .int .i64 0, .int .i64 0] 24))) ((Ext.refl _).alloc _)
  have hd := Lies.new ((w.alloc (.cells #[.int .i64 x, .int .i64 y, .int .i64 z] 24)).alloc (.cells #[.int .i64 x', .int .i64 y', .int .i64 z'] 24)) #[.int .i64 0, .int .i64 0, .int .i64 0] 24 (w.heap.size + 1 + 1) (by simp)
  have hx0 : Ext w (((w.alloc (.cells #[.int .i64 x, .int .i64 y, .int .i64 z] 24)).alloc (.cells #[.int .i64 x', .int .i64 y', .int .i64 z'] 24)).alloc (.cells #[.int .i64 0, .int .i64 0, .int .i64 0] 24)) := (((Ext.refl _).alloc _).alloc _).alloc _
  have HA := Lib.hid hb; have HB := Lib.hid hc; have HC := Lib.hid hd; have HX := Lib.hid hx0; clear hb hc hd hx0
  cases hv : subvB x y z x' y' z'
  · have hE : Hid (subvE x y z x' y' z' = 1) := by show _ = _; simp [subvE, hv]
    have hR : Hid (∀ a b, subvR x y z x' y' z' a b = 0) := by show ∀ _ _, _; intro a b; simp [subvR, hv]
    go_enter Try.func21, Try.ntmps21
    go_wp2_with (go_at_call 23; (with_reducible refine (rvright_lit2 _ _ _ _ _ _ _ _ _ (by simp)).mono ?_); rintro e w1 ⟨rfl, hx1⟩; rw [hv]; have hy1 := ((Ext.refl _).alloc _).trans hx1; have hc1 := HC.out.ext hy1; obtain ⟨⟨b0, b1⟩, ⟨b2, b3⟩, b4, b5⟩ := hc1.three)
    rw [hE.out, hR.out, hR.out, hR.out]
    have HZ := Lib.hid (show Lies _ (w.heap.size + 1 + 1) #[.int .i64 0, .int .i64 0, .int .i64 0] 24 from (((hc1).set 0 (.int .i64 0)).set 1 (.int .i64 0)).set 2 (.int .i64 0))
    have HXZ := Lib.hid (show Ext _ (((w1.setCell ⟨(w.heap.size + 1 + 1), 0, none⟩ (.int .i64 0)).setCell ⟨(w.heap.size + 1 + 1), 1, none⟩ (.int .i64 0)).setCell ⟨(w.heap.size + 1 + 1), 2, none⟩ (.int .i64 0)) from (((HX.out.trans hy1).set hl0 _).set hl0 _).set hl0 _)
    generalize (((w1.setCell ⟨(w.heap.size + 1 + 1), 0, none⟩ (.int .i64 0)).setCell ⟨(w.heap.size + 1 + 1), 1, none⟩ (.int .i64 0)).setCell ⟨(w.heap.size + 1 + 1), 2, none⟩ (.int .i64 0)) = wz at *
    obtain ⟨⟨k0, _⟩, ⟨k1, _⟩, k2, _⟩ := HZ.out.three
    refine bodyPost_ret (v := .tuple #[.agg #[.int .i64 0, .int .i64 0, .int .i64 0], .int .i64 1]) (by simp [results, Try.results21, go_sem, k0, k1, k2]) rfl ⟨?_, HXZ.out⟩
    rfl
  · have hE : Hid (subvE x y z x' y' z' = e3 (subE x x') (subE y y') (subE z z')) := by show _ = _; simp [subvE, hv]
    have hR : Hid (∀ a b, subvR x y z x' y' z' a b = r3 (subE x x') (subE y y') (subE z z') (subR a b)) := by show ∀ _ _, _; intro a b; simp [subvR, hv]
    rw [hE.out, hR.out, hR.out, hR.out]
    clear hE hR
    have hv2 := hv
    simp only [subvB, Bool.and_eq_true] at hv2
    obtain ⟨hv3, hv4⟩ := hv2
    have i0 := inB_bd (okV_in hv3 0); have i1 := inB_bd (okV_in hv3 1); have i2 := inB_bd (okV_in hv3 2)
    have j0 := inB_bd (okV_in hv4 0); have j1 := inB_bd (okV_in hv4 1); have j2 := inB_bd (okV_in hv4 2)
    rw [s3_0] at i0 j0; rw [s3_1] at i1 j1; rw [s3_2] at i2 j2
    have I0 := Lib.hid i0; have I1 := Lib.hid i1; have I2 := Lib.hid i2; have J0 := Lib.hid j0; have J1 := Lib.hid j1; have J2 := Lib.hid j2
    clear hv3 hv4 i0 i1 i2 j0 j1 j2
    cases h0 : inB (x - x')
    · have s0 := subR_no h0
      rw [show e3 (subE x x') (subE y y') (subE z z') = 6 from by simp [e3, s0.2]]
      have hrr : ∀ r, r3 (subE x x') (subE y y') (subE z z') r = 0 := by intro r; simp [r3, e3, s0.2]
      rw [hrr, hrr, hrr]
      have G0 := Lib.hid h0
      clear hrr s0 h0
      go_enter Try.func21, Try.ntmps21
      go_wp2_with (go_at_call 23; (with_reducible refine (rvright_lit2 _ _ _ _ _ _ _ _ _ (by simp)).mono ?_); rintro e w1 ⟨rfl, hx1⟩; rw [hv]; have hy1 := ((Ext.refl _).alloc _).trans hx1)
      have hs0 : Each2 w (w1.alloc (.cells #[.int .i64 0, .int .i64 0, .int .i64 0] 24)) (w.heap.size + 1 + 1) w1.heap.size (.int .i64 0) (.int .i64 0) (.int .i64 0) := ⟨(HX.out.trans hy1).alloc _, HC.out.ext (hy1.alloc _), Lies.new _ _ _ _ rfl⟩
      have HS0 := Lib.hid hs0; have HA0 := Lib.hid (HA.out.ext (hy1.alloc (.cells #[.int .i64 0, .int .i64 0, .int .i64 0] 24))); have HB0 := Lib.hid (HB.out.ext (hy1.alloc (.cells #[.int .i64 0, .int .i64 0, .int .i64 0] 24)))
      have hl3 : w.heap.size + 1 + 1 < w1.heap.size := (HC.out.ext hy1).lt
      have hl1 : w.heap.size ≤ w1.heap.size := by omega
      have hl2 : w1.heap.size ≠ w.heap.size + 1 + 1 := by omega
      have hl4 : w1.heap.size ≠ w.heap.size := by omega
      have hl5 : w1.heap.size ≠ w.heap.size + 1 := by omega
      clear hs0 hx1 hy1 HA HB HC HX
      generalize w1.alloc (.cells #[.int .i64 0, .int .i64 0, .int .i64 0] 24) = wa0 at *
      generalize w1.heap.size = go at *
      refine wp_loop_rounds 4 ?_
      rw [rounds_succ]
      obtain ⟨⟨p0, _⟩, ⟨p1, _⟩, p2, _⟩ := HA0.out.three
      obtain ⟨⟨q0, _⟩, ⟨q1, _⟩, q2, _⟩ := HB0.out.three
      have hw : IntKind.i64.wrap (x - x') = x - x' := IntWalk.i64_in _ (by have := I0.out; have := J0.out; omega)
      go_wp2
      (refine wp_region_quiet_lit (by kernel_rfl) (by kernel_rfl) ?_; (iterate 8 (any_goals (first | go_big_quiet_step (fail) | quiet_step (fail)))); all_goals (refine wpQuiet_nil ?_; intro _ hw'; obtain ⟨nq, hw''⟩ := hw'; subst hw''))
      clear hw p0 p1 p2 q0 q1 q2
      have hts := HS0.out.next (((Ext.refl wa0).drewN nq).alloc (.cells #[.int .i64 (x - x')] 22))
      obtain ⟨⟨b0, b1⟩, ⟨b2, b3⟩, b4, b5⟩ := hts.res.three
      go_wp2_with (go_at_call 46; (with_reducible refine (rright_lit1' _ _ _ _ (by simp)).mono ?_); rintro e v0 ⟨rfl, rfl⟩; rw [G0.out])
      have HZ := Lib.hid (show Lies _ (w.heap.size + 1 + 1) #[.int .i64 0, .int .i64 0, .int .i64 0] 24 from (((hts.res).set 0 (.int .i64 0)).set 1 (.int .i64 0)).set 2 (.int .i64 0))
      have HXZ := Lib.hid (show Ext _ (((((wa0.drewN nq).alloc (.cells #[.int .i64 (x - x')] 22)).setCell ⟨(w.heap.size + 1 + 1), 0, none⟩ (.int .i64 0)).setCell ⟨(w.heap.size + 1 + 1), 1, none⟩ (.int .i64 0)).setCell ⟨(w.heap.size + 1 + 1), 2, none⟩ (.int .i64 0)) from ((hts.ext.set hl0 _).set hl0 _).set hl0 _)
      generalize (((((wa0.drewN nq).alloc (.cells #[.int .i64 (x - x')] 22)).setCell ⟨(w.heap.size + 1 + 1), 0, none⟩ (.int .i64 0)).setCell ⟨(w.heap.size + 1 + 1), 1, none⟩ (.int .i64 0)).setCell ⟨(w.heap.size + 1 + 1), 2, none⟩ (.int .i64 0)) = wz at *
      obtain ⟨⟨k0, _⟩, ⟨k1, _⟩, k2, _⟩ := HZ.out.three
      refine bodyPost_ret (v := .tuple #[.agg #[.int .i64 0, .int .i64 0, .int .i64 0], .int .i64 6]) (by simp [results, Try.results21, go_sem, k0, k1, k2]) rfl ⟨?_, HXZ.out⟩
      rfl
    · cases h1 : inB (y - y')
      · have s0 := subR_yes h0
        have s1 := subR_no h1
        rw [show e3 (subE x x') (subE y y') (subE z z') = 6 from by simp [e3, s0.2, s1.2]]
        have hrr : ∀ r, r3 (subE x x') (subE y y') (subE z z') r = 0 := by intro r; simp [r3, e3, s0.2, s1.2]
        rw [hrr, hrr, hrr]
        have G0 := Lib.hid h0
        have G1 := Lib.hid h1
        clear hrr s0 h0 s1 h1
        go_enter Try.func21, Try.ntmps21
        go_wp2_with (go_at_call 23; (with_reducible refine (rvright_lit2 _ _ _ _ _ _ _ _ _ (by simp)).mono ?_); rintro e w1 ⟨rfl, hx1⟩; rw [hv]; have hy1 := ((Ext.refl _).alloc _).trans hx1)
        have hs0 : Each2 w (w1.alloc (.cells #[.int .i64 0, .int .i64 0, .int .i64 0] 24)) (w.heap.size + 1 + 1) w1.heap.size (.int .i64 0) (.int .i64 0) (.int .i64 0) := ⟨(HX.out.trans hy1).alloc _, HC.out.ext (hy1.alloc _), Lies.new _ _ _ _ rfl⟩
        have HS0 := Lib.hid hs0; have HA0 := Lib.hid (HA.out.ext (hy1.alloc (.cells #[.int .i64 0, .int .i64 0, .int .i64 0] 24))); have HB0 := Lib.hid (HB.out.ext (hy1.alloc (.cells #[.int .i64 0, .int .i64 0, .int .i64 0] 24)))
        have hl3 : w.heap.size + 1 + 1 < w1.heap.size := (HC.out.ext hy1).lt
        have hl1 : w.heap.size ≤ w1.heap.size := by omega
        have hl2 : w1.heap.size ≠ w.heap.size + 1 + 1 := by omega
        have hl4 : w1.heap.size ≠ w.heap.size := by omega
        have hl5 : w1.heap.size ≠ w.heap.size + 1 := by omega
        clear hs0 hx1 hy1 HA HB HC HX
        generalize w1.alloc (.cells #[.int .i64 0, .int .i64 0, .int .i64 0] 24) = wa0 at *
        generalize w1.heap.size = go at *
        refine wp_loop_rounds 4 ?_
        rw [rounds_succ]
        obtain ⟨⟨p0, _⟩, ⟨p1, _⟩, p2, _⟩ := HA0.out.three
        obtain ⟨⟨q0, _⟩, ⟨q1, _⟩, q2, _⟩ := HB0.out.three
        have hw : IntKind.i64.wrap (x - x') = x - x' := IntWalk.i64_in _ (by have := I0.out; have := J0.out; omega)
        go_wp2
        (refine wp_region_quiet_lit (by kernel_rfl) (by kernel_rfl) ?_; (iterate 8 (any_goals (first | go_big_quiet_step (fail) | quiet_step (fail)))); all_goals (refine wpQuiet_nil ?_; intro _ hw'; obtain ⟨nq, hw''⟩ := hw'; subst hw''))
        clear hw p0 p1 p2 q0 q1 q2
        have hts := HS0.out.next (((Ext.refl wa0).drewN nq).alloc (.cells #[.int .i64 (x - x')] 22))
        obtain ⟨⟨b0, b1⟩, ⟨b2, b3⟩, b4, b5⟩ := hts.out.three
        go_wp2_with (go_at_call 46; (with_reducible refine (rright_lit1' _ _ _ _ (by simp)).mono ?_); rintro e v0 ⟨rfl, rfl⟩; rw [G0.out])
        have HS1 := Lib.hid (hts.set0 hl1 hl2 (.int .i64 (x - x')))
        have HA1 := Lib.hid ((HA0.out.ext (((Ext.refl wa0).drewN nq).alloc (.cells #[.int .i64 (x - x')] 22))).other hl4 0 (.int .i64 (x - x')))
        have HB1 := Lib.hid ((HB0.out.ext (((Ext.refl wa0).drewN nq).alloc (.cells #[.int .i64 (x - x')] 22))).other hl5 0 (.int .i64 (x - x')))
        clear hts b0 b1 b2 b3 b4 b5
        generalize ((wa0.drewN nq).alloc (.cells #[.int .i64 (x - x')] 22)).setCell ⟨go, 0, none⟩ (.int .i64 (x - x')) = wa1 at *
        rw [rounds_succ]
        obtain ⟨⟨p0, _⟩, ⟨p1, _⟩, p2, _⟩ := HA1.out.three
        obtain ⟨⟨q0, _⟩, ⟨q1, _⟩, q2, _⟩ := HB1.out.three
        have hw : IntKind.i64.wrap (y - y') = y - y' := IntWalk.i64_in _ (by have := I1.out; have := J1.out; omega)
        go_wp2
        (refine wp_region_quiet_lit (by kernel_rfl) (by kernel_rfl) ?_; (iterate 8 (any_goals (first | go_big_quiet_step (fail) | quiet_step (fail)))); all_goals (refine wpQuiet_nil ?_; intro _ hw'; obtain ⟨nq, hw''⟩ := hw'; subst hw''))
        clear hw p0 p1 p2 q0 q1 q2
        have hts := HS1.out.next (((Ext.refl wa1).drewN nq).alloc (.cells #[.int .i64 (y - y')] 22))
        obtain ⟨⟨b0, b1⟩, ⟨b2, b3⟩, b4, b5⟩ := hts.res.three
        go_wp2_with (go_at_call 46; (with_reducible refine (rright_lit1' _ _ _ _ (by simp)).mono ?_); rintro e v1 ⟨rfl, rfl⟩; rw [G1.out])
        have HZ := Lib.hid (show Lies _ (w.heap.size + 1 + 1) #[.int .i64 0, .int .i64 0, .int .i64 0] 24 from (((hts.res).set 0 (.int .i64 0)).set 1 (.int .i64 0)).set 2 (.int .i64 0))
        have HXZ := Lib.hid (show Ext _ (((((wa1.drewN nq).alloc (.cells #[.int .i64 (y - y')] 22)).setCell ⟨(w.heap.size + 1 + 1), 0, none⟩ (.int .i64 0)).setCell ⟨(w.heap.size + 1 + 1), 1, none⟩ (.int .i64 0)).setCell ⟨(w.heap.size + 1 + 1), 2, none⟩ (.int .i64 0)) from ((hts.ext.set hl0 _).set hl0 _).set hl0 _)
        generalize (((((wa1.drewN nq).alloc (.cells #[.int .i64 (y - y')] 22)).setCell ⟨(w.heap.size + 1 + 1), 0, none⟩ (.int .i64 0)).setCell ⟨(w.heap.size + 1 + 1), 1, none⟩ (.int .i64 0)).setCell ⟨(w.heap.size + 1 + 1), 2, none⟩ (.int .i64 0)) = wz at *
        obtain ⟨⟨k0, _⟩, ⟨k1, _⟩, k2, _⟩ := HZ.out.three
        refine bodyPost_ret (v := .tuple #[.agg #[.int .i64 0, .int .i64 0, .int .i64 0], .int .i64 6]) (by simp [results, Try.results21, go_sem, k0, k1, k2]) rfl ⟨?_, HXZ.out⟩
        rfl
      · cases h2 : inB (z - z')
        · have s0 := subR_yes h0
          have s1 := subR_yes h1
          have s2 := subR_no h2
          rw [show e3 (subE x x') (subE y y') (subE z z') = 6 from by simp [e3, s0.2, s1.2, s2.2]]
          have hrr : ∀ r, r3 (subE x x') (subE y y') (subE z z') r = 0 := by intro r; simp [r3, e3, s0.2, s1.2, s2.2]
          rw [hrr, hrr, hrr]
          have G0 := Lib.hid h0
          have G1 := Lib.hid h1
          have G2 := Lib.hid h2
          clear hrr s0 h0 s1 h1 s2 h2
          go_enter Try.func21, Try.ntmps21
          go_wp2_with (go_at_call 23; (with_reducible refine (rvright_lit2 _ _ _ _ _ _ _ _ _ (by simp)).mono ?_); rintro e w1 ⟨rfl, hx1⟩; rw [hv]; have hy1 := ((Ext.refl _).alloc _).trans hx1)
          have hs0 : Each2 w (w1.alloc (.cells #[.int .i64 0, .int .i64 0, .int .i64 0] 24)) (w.heap.size + 1 + 1) w1.heap.size (.int .i64 0) (.int .i64 0) (.int .i64 0) := ⟨(HX.out.trans hy1).alloc _, HC.out.ext (hy1.alloc _), Lies.new _ _ _ _ rfl⟩
          have HS0 := Lib.hid hs0; have HA0 := Lib.hid (HA.out.ext (hy1.alloc (.cells #[.int .i64 0, .int .i64 0, .int .i64 0] 24))); have HB0 := Lib.hid (HB.out.ext (hy1.alloc (.cells #[.int .i64 0, .int .i64 0, .int .i64 0] 24)))
          have hl3 : w.heap.size + 1 + 1 < w1.heap.size := (HC.out.ext hy1).lt
          have hl1 : w.heap.size ≤ w1.heap.size := by omega
          have hl2 : w1.heap.size ≠ w.heap.size + 1 + 1 := by omega
          have hl4 : w1.heap.size ≠ w.heap.size := by omega
          have hl5 : w1.heap.size ≠ w.heap.size + 1 := by omega
          clear hs0 hx1 hy1 HA HB HC HX
          generalize w1.alloc (.cells #[.int .i64 0, .int .i64 0, .int .i64 0] 24) = wa0 at *
          generalize w1.heap.size = go at *
          refine wp_loop_rounds 4 ?_
          rw [rounds_succ]
          obtain ⟨⟨p0, _⟩, ⟨p1, _⟩, p2, _⟩ := HA0.out.three
          obtain ⟨⟨q0, _⟩, ⟨q1, _⟩, q2, _⟩ := HB0.out.three
          have hw : IntKind.i64.wrap (x - x') = x - x' := IntWalk.i64_in _ (by have := I0.out; have := J0.out; omega)
          go_wp2
          (refine wp_region_quiet_lit (by kernel_rfl) (by kernel_rfl) ?_; (iterate 8 (any_goals (first | go_big_quiet_step (fail) | quiet_step (fail)))); all_goals (refine wpQuiet_nil ?_; intro _ hw'; obtain ⟨nq, hw''⟩ := hw'; subst hw''))
          clear hw p0 p1 p2 q0 q1 q2
          have hts := HS0.out.next (((Ext.refl wa0).drewN nq).alloc (.cells #[.int .i64 (x - x')] 22))
          obtain ⟨⟨b0, b1⟩, ⟨b2, b3⟩, b4, b5⟩ := hts.out.three
          go_wp2_with (go_at_call 46; (with_reducible refine (rright_lit1' _ _ _ _ (by simp)).mono ?_); rintro e v0 ⟨rfl, rfl⟩; rw [G0.out])
          have HS1 := Lib.hid (hts.set0 hl1 hl2 (.int .i64 (x - x')))
          have HA1 := Lib.hid ((HA0.out.ext (((Ext.refl wa0).drewN nq).alloc (.cells #[.int .i64 (x - x')] 22))).other hl4 0 (.int .i64 (x - x')))
          have HB1 := Lib.hid ((HB0.out.ext (((Ext.refl wa0).drewN nq).alloc (.cells #[.int .i64 (x - x')] 22))).other hl5 0 (.int .i64 (x - x')))
          clear hts b0 b1 b2 b3 b4 b5
          generalize ((wa0.drewN nq).alloc (.cells #[.int .i64 (x - x')] 22)).setCell ⟨go, 0, none⟩ (.int .i64 (x - x')) = wa1 at *
          rw [rounds_succ]
          obtain ⟨⟨p0, _⟩, ⟨p1, _⟩, p2, _⟩ := HA1.out.three
          obtain ⟨⟨q0, _⟩, ⟨q1, _⟩, q2, _⟩ := HB1.out.three
          have hw : IntKind.i64.wrap (y - y') = y - y' := IntWalk.i64_in _ (by have := I1.out; have := J1.out; omega)
          go_wp2
          (refine wp_region_quiet_lit (by kernel_rfl) (by kernel_rfl) ?_; (iterate 8 (any_goals (first | go_big_quiet_step (fail) | quiet_step (fail)))); all_goals (refine wpQuiet_nil ?_; intro _ hw'; obtain ⟨nq, hw''⟩ := hw'; subst hw''))
          clear hw p0 p1 p2 q0 q1 q2
          have hts := HS1.out.next (((Ext.refl wa1).drewN nq).alloc (.cells #[.int .i64 (y - y')] 22))
          obtain ⟨⟨b0, b1⟩, ⟨b2, b3⟩, b4, b5⟩ := hts.out.three
          go_wp2_with (go_at_call 46; (with_reducible refine (rright_lit1' _ _ _ _ (by simp)).mono ?_); rintro e v1 ⟨rfl, rfl⟩; rw [G1.out])
          have HS2 := Lib.hid (hts.set1 hl1 hl2 (.int .i64 (y - y')))
          have HA2 := Lib.hid ((HA1.out.ext (((Ext.refl wa1).drewN nq).alloc (.cells #[.int .i64 (y - y')] 22))).other hl4 1 (.int .i64 (y - y')))
          have HB2 := Lib.hid ((HB1.out.ext (((Ext.refl wa1).drewN nq).alloc (.cells #[.int .i64 (y - y')] 22))).other hl5 1 (.int .i64 (y - y')))
          clear hts b0 b1 b2 b3 b4 b5
          generalize ((wa1.drewN nq).alloc (.cells #[.int .i64 (y - y')] 22)).setCell ⟨go, 1, none⟩ (.int .i64 (y - y')) = wa2 at *
          rw [rounds_succ]
          obtain ⟨⟨p0, _⟩, ⟨p1, _⟩, p2, _⟩ := HA2.out.three
          obtain ⟨⟨q0, _⟩, ⟨q1, _⟩, q2, _⟩ := HB2.out.three
          have hw : IntKind.i64.wrap (z - z') = z - z' := IntWalk.i64_in _ (by have := I2.out; have := J2.out; omega)
          go_wp2
          (refine wp_region_quiet_lit (by kernel_rfl) (by kernel_rfl) ?_; (iterate 8 (any_goals (first | go_big_quiet_step (fail) | quiet_step (fail)))); all_goals (refine wpQuiet_nil ?_; intro _ hw'; obtain ⟨nq, hw''⟩ := hw'; subst hw''))
          clear hw p0 p1 p2 q0 q1 q2
          have hts := HS2.out.next (((Ext.refl wa2).drewN nq).alloc (.cells #[.int .i64 (z - z')] 22))
          obtain ⟨⟨b0, b1⟩, ⟨b2, b3⟩, b4, b5⟩ := hts.res.three
          go_wp2_with (go_at_call 46; (with_reducible refine (rright_lit1' _ _ _ _ (by simp)).mono ?_); rintro e v2 ⟨rfl, rfl⟩; rw [G2.out])
          have HZ := Lib.hid (show Lies _ (w.heap.size + 1 + 1) #[.int .i64 0, .int .i64 0, .int .i64 0] 24 from (((hts.res).set 0 (.int .i64 0)).set 1 (.int .i64 0)).set 2 (.int .i64 0))
          have HXZ := Lib.hid (show Ext _ (((((wa2.drewN nq).alloc (.cells #[.int .i64 (z - z')] 22)).setCell ⟨(w.heap.size + 1 + 1), 0, none⟩ (.int .i64 0)).setCell ⟨(w.heap.size + 1 + 1), 1, none⟩ (.int .i64 0)).setCell ⟨(w.heap.size + 1 + 1), 2, none⟩ (.int .i64 0)) from ((hts.ext.set hl0 _).set hl0 _).set hl0 _)
          generalize (((((wa2.drewN nq).alloc (.cells #[.int .i64 (z - z')] 22)).setCell ⟨(w.heap.size + 1 + 1), 0, none⟩ (.int .i64 0)).setCell ⟨(w.heap.size + 1 + 1), 1, none⟩ (.int .i64 0)).setCell ⟨(w.heap.size + 1 + 1), 2, none⟩ (.int .i64 0)) = wz at *
          obtain ⟨⟨k0, _⟩, ⟨k1, _⟩, k2, _⟩ := HZ.out.three
          refine bodyPost_ret (v := .tuple #[.agg #[.int .i64 0, .int .i64 0, .int .i64 0], .int .i64 6]) (by simp [results, Try.results21, go_sem, k0, k1, k2]) rfl ⟨?_, HXZ.out⟩
          rfl
        · have s0 := subR_yes h0
          have s1 := subR_yes h1
          have s2 := subR_yes h2
          rw [show e3 (subE x x') (subE y y') (subE z z') = 0 from by simp [e3, s0.2, s1.2, s2.2]]
          have hrr : ∀ r, r3 (subE x x') (subE y y') (subE z z') r = r := by intro r; simp [r3, e3, s0.2, s1.2, s2.2]
          rw [hrr, hrr, hrr]
          rw [s0.1, s1.1, s2.1]
          have G0 := Lib.hid h0
          have G1 := Lib.hid h1
          have G2 := Lib.hid h2
          clear hrr s0 h0 s1 h1 s2 h2
          go_enter Try.func21, Try.ntmps21
          go_wp2_with (go_at_call 23; (with_reducible refine (rvright_lit2 _ _ _ _ _ _ _ _ _ (by simp)).mono ?_); rintro e w1 ⟨rfl, hx1⟩; rw [hv]; have hy1 := ((Ext.refl _).alloc _).trans hx1)
          have hs0 : Each2 w (w1.alloc (.cells #[.int .i64 0, .int .i64 0, .int .i64 0] 24)) (w.heap.size + 1 + 1) w1.heap.size (.int .i64 0) (.int .i64 0) (.int .i64 0) := ⟨(HX.out.trans hy1).alloc _, HC.out.ext (hy1.alloc _), Lies.new _ _ _ _ rfl⟩
          have HS0 := Lib.hid hs0; have HA0 := Lib.hid (HA.out.ext (hy1.alloc (.cells #[.int .i64 0, .int .i64 0, .int .i64 0] 24))); have HB0 := Lib.hid (HB.out.ext (hy1.alloc (.cells #[.int .i64 0, .int .i64 0, .int .i64 0] 24)))
          have hl3 : w.heap.size + 1 + 1 < w1.heap.size := (HC.out.ext hy1).lt
          have hl1 : w.heap.size ≤ w1.heap.size := by omega
          have hl2 : w1.heap.size ≠ w.heap.size + 1 + 1 := by omega
          have hl4 : w1.heap.size ≠ w.heap.size := by omega
          have hl5 : w1.heap.size ≠ w.heap.size + 1 := by omega
          clear hs0 hx1 hy1 HA HB HC HX
          generalize w1.alloc (.cells #[.int .i64 0, .int .i64 0, .int .i64 0] 24) = wa0 at *
          generalize w1.heap.size = go at *
          refine wp_loop_rounds 4 ?_
          rw [rounds_succ]
          obtain ⟨⟨p0, _⟩, ⟨p1, _⟩, p2, _⟩ := HA0.out.three
          obtain ⟨⟨q0, _⟩, ⟨q1, _⟩, q2, _⟩ := HB0.out.three
          have hw : IntKind.i64.wrap (x - x') = x - x' := IntWalk.i64_in _ (by have := I0.out; have := J0.out; omega)
          go_wp2
          (refine wp_region_quiet_lit (by kernel_rfl) (by kernel_rfl) ?_; (iterate 8 (any_goals (first | go_big_quiet_step (fail) | quiet_step (fail)))); all_goals (refine wpQuiet_nil ?_; intro _ hw'; obtain ⟨nq, hw''⟩ := hw'; subst hw''))
          clear hw p0 p1 p2 q0 q1 q2
          have hts := HS0.out.next (((Ext.refl wa0).drewN nq).alloc (.cells #[.int .i64 (x - x')] 22))
          obtain ⟨⟨b0, b1⟩, ⟨b2, b3⟩, b4, b5⟩ := hts.out.three
          go_wp2_with (go_at_call 46; (with_reducible refine (rright_lit1' _ _ _ _ (by simp)).mono ?_); rintro e v0 ⟨rfl, rfl⟩; rw [G0.out])
          have HS1 := Lib.hid (hts.set0 hl1 hl2 (.int .i64 (x - x')))
          have HA1 := Lib.hid ((HA0.out.ext (((Ext.refl wa0).drewN nq).alloc (.cells #[.int .i64 (x - x')] 22))).other hl4 0 (.int .i64 (x - x')))
          have HB1 := Lib.hid ((HB0.out.ext (((Ext.refl wa0).drewN nq).alloc (.cells #[.int .i64 (x - x')] 22))).other hl5 0 (.int .i64 (x - x')))
          clear hts b0 b1 b2 b3 b4 b5
          generalize ((wa0.drewN nq).alloc (.cells #[.int .i64 (x - x')] 22)).setCell ⟨go, 0, none⟩ (.int .i64 (x - x')) = wa1 at *
          rw [rounds_succ]
          obtain ⟨⟨p0, _⟩, ⟨p1, _⟩, p2, _⟩ := HA1.out.three
          obtain ⟨⟨q0, _⟩, ⟨q1, _⟩, q2, _⟩ := HB1.out.three
          have hw : IntKind.i64.wrap (y - y') = y - y' := IntWalk.i64_in _ (by have := I1.out; have := J1.out; omega)
          go_wp2
          (refine wp_region_quiet_lit (by kernel_rfl) (by kernel_rfl) ?_; (iterate 8 (any_goals (first | go_big_quiet_step (fail) | quiet_step (fail)))); all_goals (refine wpQuiet_nil ?_; intro _ hw'; obtain ⟨nq, hw''⟩ := hw'; subst hw''))
          clear hw p0 p1 p2 q0 q1 q2
          have hts := HS1.out.next (((Ext.refl wa1).drewN nq).alloc (.cells #[.int .i64 (y - y')] 22))
          obtain ⟨⟨b0, b1⟩, ⟨b2, b3⟩, b4, b5⟩ := hts.out.three
          go_wp2_with (go_at_call 46; (with_reducible refine (rright_lit1' _ _ _ _ (by simp)).mono ?_); rintro e v1 ⟨rfl, rfl⟩; rw [G1.out])
          have HS2 := Lib.hid (hts.set1 hl1 hl2 (.int .i64 (y - y')))
          have HA2 := Lib.hid ((HA1.out.ext (((Ext.refl wa1).drewN nq).alloc (.cells #[.int .i64 (y - y')] 22))).other hl4 1 (.int .i64 (y - y')))
          have HB2 := Lib.hid ((HB1.out.ext (((Ext.refl wa1).drewN nq).alloc (.cells #[.int .i64 (y - y')] 22))).other hl5 1 (.int .i64 (y - y')))
          clear hts b0 b1 b2 b3 b4 b5
          generalize ((wa1.drewN nq).alloc (.cells #[.int .i64 (y - y')] 22)).setCell ⟨go, 1, none⟩ (.int .i64 (y - y')) = wa2 at *
          rw [rounds_succ]
          obtain ⟨⟨p0, _⟩, ⟨p1, _⟩, p2, _⟩ := HA2.out.three
          obtain ⟨⟨q0, _⟩, ⟨q1, _⟩, q2, _⟩ := HB2.out.three
          have hw : IntKind.i64.wrap (z - z') = z - z' := IntWalk.i64_in _ (by have := I2.out; have := J2.out; omega)
          go_wp2
          (refine wp_region_quiet_lit (by kernel_rfl) (by kernel_rfl) ?_; (iterate 8 (any_goals (first | go_big_quiet_step (fail) | quiet_step (fail)))); all_goals (refine wpQuiet_nil ?_; intro _ hw'; obtain ⟨nq, hw''⟩ := hw'; subst hw''))
          clear hw p0 p1 p2 q0 q1 q2
          have hts := HS2.out.next (((Ext.refl wa2).drewN nq).alloc (.cells #[.int .i64 (z - z')] 22))
          obtain ⟨⟨b0, b1⟩, ⟨b2, b3⟩, b4, b5⟩ := hts.out.three
          go_wp2_with (go_at_call 46; (with_reducible refine (rright_lit1' _ _ _ _ (by simp)).mono ?_); rintro e v2 ⟨rfl, rfl⟩; rw [G2.out])
          have HS3 := Lib.hid (hts.set2 hl1 hl2 (.int .i64 (z - z')))
          have HA3 := Lib.hid ((HA2.out.ext (((Ext.refl wa2).drewN nq).alloc (.cells #[.int .i64 (z - z')] 22))).other hl4 2 (.int .i64 (z - z')))
          have HB3 := Lib.hid ((HB2.out.ext (((Ext.refl wa2).drewN nq).alloc (.cells #[.int .i64 (z - z')] 22))).other hl5 2 (.int .i64 (z - z')))
          clear hts b0 b1 b2 b3 b4 b5
          generalize ((wa2.drewN nq).alloc (.cells #[.int .i64 (z - z')] 22)).setCell ⟨go, 2, none⟩ (.int .i64 (z - z')) = wa3 at *
          rw [rounds_succ]
          obtain ⟨⟨b0, b1⟩, ⟨b2, b3⟩, b4, b5⟩ := HS3.out.res.three
          obtain ⟨⟨b6, _⟩, ⟨b7, _⟩, b8, _⟩ := HS3.out.out.three
          go_wp2
          have HZ := Lib.hid (show Lies _ (w.heap.size + 1 + 1) #[.int .i64 (x - x'), .int .i64 (y - y'), .int .i64 (z - z')] 24 from (((HS3.out.res).set 0 (.int .i64 (x - x'))).set 1 (.int .i64 (y - y'))).set 2 (.int .i64 (z - z')))
          have HXZ := Lib.hid (show Ext _ (((wa3.setCell ⟨(w.heap.size + 1 + 1), 0, none⟩ (.int .i64 (x - x'))).setCell ⟨(w.heap.size + 1 + 1), 1, none⟩ (.int .i64 (y - y'))).setCell ⟨(w.heap.size + 1 + 1), 2, none⟩ (.int .i64 (z - z'))) from ((HS3.out.ext.set hl0 _).set hl0 _).set hl0 _)
          generalize (((wa3.setCell ⟨(w.heap.size + 1 + 1), 0, none⟩ (.int .i64 (x - x'))).setCell ⟨(w.heap.size + 1 + 1), 1, none⟩ (.int .i64 (y - y'))).setCell ⟨(w.heap.size + 1 + 1), 2, none⟩ (.int .i64 (z - z'))) = wz at *
          obtain ⟨⟨k0, _⟩, ⟨k1, _⟩, k2, _⟩ := HZ.out.three
          refine bodyPost_ret (v := .tuple #[.agg #[.int .i64 (x - x'), .int .i64 (y - y'), .int .i64 (z - z')], .int .i64 0]) (by simp [results, Try.results21, go_sem, k0, k1, k2]) rfl ⟨?_, HXZ.out⟩
          rfl
end Go.Proofs.Ytmgckodihnmjoaa
