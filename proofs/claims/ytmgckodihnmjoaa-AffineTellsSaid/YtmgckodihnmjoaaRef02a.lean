/-
  The reference of layer 2: whether vectors may be, scaled ones, differences, dots; walked. Conditions: slices that are read lie in memory. (Printed by tools/genref02.py.)
-/
import Derived.Test.YtmgckodihnmjoaaVec6
import Derived.Test.YtmgckodihnmjoaaRef1
set_option linter.unusedVariables false
set_option linter.unusedSimpArgs false
namespace Go.Proofs.Ytmgckodihnmjoaa
open Go.RowKit

theorem rright_lit3 (x y z : Int) (w : World) (t n : Nat) (hn : n = w.heap.size) : Calls Try.prog 46 #[.slice (some ⟨n, 0, none⟩) 3 3] (w.alloc (.cells #[.int .i64 x, .int .i64 y, .int .i64 z] t)) fun e w' => e = .returned (.bool (okV x y z)) ∧ w.alloc (.cells #[.int .i64 x, .int .i64 y, .int .i64 z] t) = w' :=
  rright_any _ 3 [x, y, z] _ (rdK_lit .i64 w [x, y, z] t (0, 0) (by simp) n hn)
theorem rright_lit1' (x : Int) (w : World) (t n : Nat) (hn : n = w.heap.size) : Calls Try.prog 46 #[.slice (some ⟨n, 0, none⟩) 1 1] (w.alloc (.cells #[.int .i64 x] t)) fun e w' => e = .returned (.bool (inB x)) ∧ w.alloc (.cells #[.int .i64 x] t) = w' := by
  have h := rright_any _ 1 [x] _ (rdK_lit .i64 w [x] t (0, 0) (by simp) n hn)
  rw [right_one] at h
  exact h
theorem rone_vec (x y z : Int) (w : World) : Calls Try.prog 47 #[.agg #[.int .i64 x, .int .i64 y, .int .i64 z]] w fun e w' => e = .returned (.bool (okV x y z)) ∧ Ext w w' := by
  go_enter Try.func47, Try.ntmps47
  go_wp2_with (go_at_call 46; (with_reducible refine (rright_lit3 _ _ _ _ _ _ rfl).mono ?_); rintro e w' ⟨rfl, rfl⟩)
  go_ret
  exact ⟨rfl, (Ext.refl _).alloc _⟩
set_option maxHeartbeats 1600000 in
theorem rvright_any (A : Option Addr) (c n : Nat) (f : Nat → Nat → Int) (w : World) (h : RdM 3 w A n f) : Calls Try.prog 23 #[.slice A n c] w fun e w' => e = .returned (.bool (vecsB f n)) ∧ Ext w w' := by
  obtain ⟨hlen, hr⟩ := h
  have HR := Lib.hid hr; clear hr
  go_enter Try.func23, Try.ntmps23
  go_wp2
  go_loopw [3, 4] (fun i _ wr => ∃ k : Nat, k ≤ n ∧ i = .int .i64 k ∧ AllTo (vecB f) k ∧ Ext w wr) (fun i _ _ => n - (intOf i).toNat)
  case atStart => exact ⟨0, by omega, rfl, allTo_zero _, Ext.refl _⟩
  case round =>
    obtain ⟨k, hk, rfl, ha, hx⟩ := hrel
    have HA := Lib.hid ha; clear ha
    by_cases hlt : k < n
    · obtain ⟨ad, rfl, hcl⟩ := HR.out k hlt
      have hcl := fun j hj => hx.cell (hcl j hj)
      have c0 := el_0 (hcl 0 (by decide))
      have c1 := el_s (hcl 1 (by decide))
      have c2 := el_s (hcl 2 (by decide))
      clear hcl
      cases hv : okV (f k 0) (f k 1) (f k 2)
      · have hf : Hid (vecsB f n = false) := allN_false (q := vecB f) hlt hv
        go_wp2_with (go_at_call 47; (with_reducible refine (rone_vec _ _ _ _).mono ?_); rintro e w1 ⟨rfl, hx1⟩; rw [hv])
        go_ret
        exact ⟨ret_eq (by rw [hf.out]; rfl), hx.trans hx1⟩
      · have hs := Lib.hid (allTo_succ HA.out (q := vecB f) (k := k) hv)
        go_wp2_with (go_at_call 47; (with_reducible refine (rone_vec _ _ _ _).mono ?_); rintro e w1 ⟨rfl, hx1⟩; rw [hv])
        go_roundw
        case rel => exact ⟨k + 1, by omega, by go_num, hs.out, hx.trans hx1⟩
        case measure => simp [intOf]; omega
    · obtain rfl : n = k := by omega
      have ht : Hid (vecsB f n = true) := allN_true HA.out
      go_wp2
      go_ret
      exact ⟨ret_eq (by rw [ht.out]; rfl), hx⟩
theorem rvright_lit2 (x y z x' y' z' : Int) (w : World) (t n : Nat) (hn : n = w.heap.size) : Calls Try.prog 23 #[.slice (some ⟨n, 0, none⟩) 2 2] (w.alloc (.cells #[.int .i64 x, .int .i64 y, .int .i64 z, .int .i64 x', .int .i64 y', .int .i64 z'] t)) fun e w' => e = .returned (.bool (subvB x y z x' y' z')) ∧ Ext (w.alloc (.cells #[.int .i64 x, .int .i64 y, .int .i64 z, .int .i64 x', .int .i64 y', .int .i64 z'] t)) w' := by
  unfold subvB
  rw [← vecsB_pair]
  refine rvright_any _ 2 2 (pairF x y z x' y' z') _ (rdM_new 3 _ _ t 2 n _ hn (by omega) (fun i j hi hj => ?_))
  obtain rfl | rfl : i = 0 ∨ i = 1 := by omega
  all_goals (obtain rfl | rfl | rfl : j = 0 ∨ j = 1 ∨ j = 2 := by omega)
  all_goals rfl
set_option maxRecDepth 20000 in
set_option maxHeartbeats 3200000 in
theorem rvscale_any (x y z m : Int) (w : World) : Calls Try.prog 26 #[.agg #[.int .i64 x, .int .i64 y, .int .i64 z], .int .i64 m] w (RetV w (sclvE x y z m) (sclvR x y z m x) (sclvR x y z m y) (sclvR x y z m z)) := by
  have hl0 : w.heap.size ≤ w.heap.size + 1 := by omega
  have hl1 : w.heap.size ≤ w.heap.size + 1 + 1 := by omega
  have hl2 : w.heap.size + 1 + 1 ≠ w.heap.size + 1 := by omega
  have hx0 : Ext w (((w.alloc (.cells #[.int .i64 x, .int .i64 y, .int .i64 z] 24)).alloc (.cells #[.int .i64 0, .int .i64 0, .int .i64 0] 24)).alloc (.cells #[.int .i64 0, .int .i64 0, .int .i64 0] 24)) := (((Ext.refl _).alloc _).alloc _).alloc _
  have hb := (Lies.new w #[.int .i64 x, .int .i64 y, .int .i64 z] 24 _ rfl).ext (w' := (((w.alloc (.cells #[.int .i64 x, .int .i64 y, .int .i64 z] 24)).alloc (.cells #[.int .i64 0, .int .i64 0, .int .i64 0] 24)).alloc (.cells #[.int .i64 0, .int .i64 0, .int .i64 0] 24))) (((Ext.refl _).alloc _).alloc _)
  have hs : Each2 w (((w.alloc (.cells #[.int .i64 x, .int .i64 y, .int .i64 z] 24)).alloc (.cells #[.int .i64 0, .int .i64 0, .int .i64 0] 24)).alloc (.cells #[.int .i64 0, .int .i64 0, .int .i64 0] 24)) (w.heap.size + 1) (w.heap.size + 1 + 1) (.int .i64 0) (.int .i64 0) (.int .i64 0) := ⟨hx0, (Lies.new (w.alloc (.cells #[.int .i64 x, .int .i64 y, .int .i64 z] 24)) #[.int .i64 0, .int .i64 0, .int .i64 0] 24 (w.heap.size + 1) (by simp)).ext ((Ext.refl _).alloc _), Lies.new ((w.alloc (.cells #[.int .i64 x, .int .i64 y, .int .i64 z] 24)).alloc (.cells #[.int .i64 0, .int .i64 0, .int .i64 0] 24)) #[.int .i64 0, .int .i64 0, .int .i64 0] 24 (w.heap.size + 1 + 1) (by simp)⟩
  have HB := Lib.hid hb; have HS := Lib.hid hs; clear hb hs hx0
  cases hv : okV x y z
  · have hE : Hid (sclvE x y z m = 1) := by show _ = _; simp [sclvE, hv]
    have hR : Hid (∀ a, sclvR x y z m a = 0) := by show ∀ _, _; intro a; simp [sclvR, hv]
    go_enter Try.func26, Try.ntmps26
    go_wp2_with (go_at_call 47; (with_reducible refine (rone_vec _ _ _ _).mono ?_); rintro e w1 ⟨rfl, hx1⟩; rw [hv]; have hs1 := HS.out.next hx1; obtain ⟨⟨b0, b1⟩, ⟨b2, b3⟩, b4, b5⟩ := hs1.res.three; obtain ⟨⟨b6, _⟩, ⟨b7, _⟩, b8, _⟩ := hs1.out.three)
    rw [hE.out, hR.out, hR.out, hR.out]
    have HZ := Lib.hid (show Lies _ (w.heap.size + 1) #[.int .i64 0, .int .i64 0, .int .i64 0] 24 from (((hs1.res).set 0 (.int .i64 0)).set 1 (.int .i64 0)).set 2 (.int .i64 0))
    have HXZ := Lib.hid (show Ext _ (((w1.setCell ⟨(w.heap.size + 1), 0, none⟩ (.int .i64 0)).setCell ⟨(w.heap.size + 1), 1, none⟩ (.int .i64 0)).setCell ⟨(w.heap.size + 1), 2, none⟩ (.int .i64 0)) from ((hs1.ext.set hl0 _).set hl0 _).set hl0 _)
    generalize (((w1.setCell ⟨(w.heap.size + 1), 0, none⟩ (.int .i64 0)).setCell ⟨(w.heap.size + 1), 1, none⟩ (.int .i64 0)).setCell ⟨(w.heap.size + 1), 2, none⟩ (.int .i64 0)) = wz at *
    obtain ⟨⟨k0, _⟩, ⟨k1, _⟩, k2, _⟩ := HZ.out.three
    refine bodyPost_ret (v := .tuple #[.agg #[.int .i64 0, .int .i64 0, .int .i64 0], .int .i64 1]) (by simp [results, Try.results26, go_sem, k0, k1, k2]) rfl ⟨?_, HXZ.out⟩
    rfl
  · have hE : Hid (sclvE x y z m = e3 (mulE x m) (mulE y m) (mulE z m)) := by show _ = _; simp [sclvE, hv]
    have hR : Hid (∀ a, sclvR x y z m a = r3 (mulE x m) (mulE y m) (mulE z m) (mulR a m)) := by show ∀ _, _; intro a; simp [sclvR, hv]
    rw [hE.out, hR.out, hR.out, hR.out]
    clear hE hR
    have hm := fun (a : Int) (w : World) => rmul_any a m w
    have HM := Lib.hid hm; clear hm
    by_cases h0 : mulE x m = 0
    · have HH0 := Lib.hid h0
      by_cases h1 : mulE y m = 0
      · have HH1 := Lib.hid h1
        by_cases h2 : mulE z m = 0
        · rw [show e3 (mulE x m) (mulE y m) (mulE z m) = 0 from by simp [e3, h0, h1, h2]]
          have hrr : ∀ r, r3 (mulE x m) (mulE y m) (mulE z m) r = r := by intro r; simp [r3, e3, h0, h1, h2]
          rw [hrr, hrr, hrr]
          have G0 := Lib.hid h0
          have G1 := Lib.hid h1
          have G2 := Lib.hid h2
          clear hrr
          clear h0 h1 h2
          clear HH0 HH1
          go_enter Try.func26, Try.ntmps26
          go_wp2_with (go_at_call 47; (with_reducible refine (rone_vec _ _ _ _).mono ?_); rintro e w1 ⟨rfl, hx1⟩; rw [hv]; have hs0 := HS.out.next hx1; have hb0 := HB.out.ext hx1)
          have HS0 := Lib.hid hs0; have HB0 := Lib.hid hb0; clear hs0 hb0 HS HB
          generalize w1 = wa0 at *
          refine wp_loop_rounds 4 ?_
          rw [rounds_succ]
          obtain ⟨⟨b6, _⟩, ⟨b7, _⟩, b8, _⟩ := HB0.out.three
          go_wp2_with (go_at_call 88; (refine (HM.out x _).mono ?_); rintro e v0 ⟨rfl, hx2⟩; have ht0 := HS0.out.next hx2; rw [G0.out]; obtain ⟨⟨b0, b1⟩, ⟨b2, b3⟩, b4, b5⟩ := ht0.out.three)
          have HS1 := Lib.hid (ht0.set0 hl1 hl2 (.int .i64 (mulR x m)))
          have HB1 := Lib.hid ((HB0.out.ext hx2).other (by omega : w.heap.size + 1 + 1 ≠ w.heap.size) 0 (.int .i64 (mulR x m)))
          clear ht0 hx2 b0 b1 b2 b3 b4 b5 b6 b7 b8
          generalize v0.setCell ⟨w.heap.size + 1 + 1, 0, none⟩ (.int .i64 (mulR x m)) = wa1 at *
          rw [rounds_succ]
          obtain ⟨⟨b6, _⟩, ⟨b7, _⟩, b8, _⟩ := HB1.out.three
          go_wp2_with (go_at_call 88; (refine (HM.out y _).mono ?_); rintro e v1 ⟨rfl, hx3⟩; have ht1 := HS1.out.next hx3; rw [G1.out]; obtain ⟨⟨b0, b1⟩, ⟨b2, b3⟩, b4, b5⟩ := ht1.out.three)
          have HS2 := Lib.hid (ht1.set1 hl1 hl2 (.int .i64 (mulR y m)))
          have HB2 := Lib.hid ((HB1.out.ext hx3).other (by omega : w.heap.size + 1 + 1 ≠ w.heap.size) 1 (.int .i64 (mulR y m)))
          clear ht1 hx3 b0 b1 b2 b3 b4 b5 b6 b7 b8
          generalize v1.setCell ⟨w.heap.size + 1 + 1, 1, none⟩ (.int .i64 (mulR y m)) = wa2 at *
          rw [rounds_succ]
          obtain ⟨⟨b6, _⟩, ⟨b7, _⟩, b8, _⟩ := HB2.out.three
          go_wp2_with (go_at_call 88; (refine (HM.out z _).mono ?_); rintro e v2 ⟨rfl, hx4⟩; have ht2 := HS2.out.next hx4; rw [G2.out]; obtain ⟨⟨b0, b1⟩, ⟨b2, b3⟩, b4, b5⟩ := ht2.out.three)
          have HS3 := Lib.hid (ht2.set2 hl1 hl2 (.int .i64 (mulR z m)))
          have HB3 := Lib.hid ((HB2.out.ext hx4).other (by omega : w.heap.size + 1 + 1 ≠ w.heap.size) 2 (.int .i64 (mulR z m)))
          clear ht2 hx4 b0 b1 b2 b3 b4 b5 b6 b7 b8
          generalize v2.setCell ⟨w.heap.size + 1 + 1, 2, none⟩ (.int .i64 (mulR z m)) = wa3 at *
          rw [rounds_succ]
          obtain ⟨⟨b0, b1⟩, ⟨b2, b3⟩, b4, b5⟩ := HS3.out.res.three
          obtain ⟨⟨b6, _⟩, ⟨b7, _⟩, b8, _⟩ := HS3.out.out.three
          go_wp2
          have HZ := Lib.hid (show Lies _ (w.heap.size + 1) #[.int .i64 (mulR x m), .int .i64 (mulR y m), .int .i64 (mulR z m)] 24 from (((HS3.out.res).set 0 (.int .i64 (mulR x m))).set 1 (.int .i64 (mulR y m))).set 2 (.int .i64 (mulR z m)))
          have HXZ := Lib.hid (show Ext _ (((wa3.setCell ⟨(w.heap.size + 1), 0, none⟩ (.int .i64 (mulR x m))).setCell ⟨(w.heap.size + 1), 1, none⟩ (.int .i64 (mulR y m))).setCell ⟨(w.heap.size + 1), 2, none⟩ (.int .i64 (mulR z m))) from ((HS3.out.ext.set hl0 _).set hl0 _).set hl0 _)
          generalize (((wa3.setCell ⟨(w.heap.size + 1), 0, none⟩ (.int .i64 (mulR x m))).setCell ⟨(w.heap.size + 1), 1, none⟩ (.int .i64 (mulR y m))).setCell ⟨(w.heap.size + 1), 2, none⟩ (.int .i64 (mulR z m))) = wz at *
          obtain ⟨⟨k0, _⟩, ⟨k1, _⟩, k2, _⟩ := HZ.out.three
          refine bodyPost_ret (v := .tuple #[.agg #[.int .i64 (mulR x m), .int .i64 (mulR y m), .int .i64 (mulR z m)], .int .i64 0]) (by simp [results, Try.results26, go_sem, k0, k1, k2]) rfl ⟨?_, HXZ.out⟩
          rfl
        · rw [show e3 (mulE x m) (mulE y m) (mulE z m) = mulE z m from by simp [e3, h0, h1, h2]]
          have hrr : ∀ r, r3 (mulE x m) (mulE y m) (mulE z m) r = 0 := by intro r; simp [r3, e3, h0, h1, h2]
          rw [hrr, hrr, hrr]
          have G0 := Lib.hid h0
          have G1 := Lib.hid h1
          have h2b : (mulE z m != 0) = true := by simpa using h2
          clear hrr
          clear h0 h1
          clear HH0 HH1
          go_enter Try.func26, Try.ntmps26
          go_wp2_with (go_at_call 47; (with_reducible refine (rone_vec _ _ _ _).mono ?_); rintro e w1 ⟨rfl, hx1⟩; rw [hv]; have hs0 := HS.out.next hx1; have hb0 := HB.out.ext hx1)
          have HS0 := Lib.hid hs0; have HB0 := Lib.hid hb0; clear hs0 hb0 HS HB
          generalize w1 = wa0 at *
          refine wp_loop_rounds 4 ?_
          rw [rounds_succ]
          obtain ⟨⟨b6, _⟩, ⟨b7, _⟩, b8, _⟩ := HB0.out.three
          go_wp2_with (go_at_call 88; (refine (HM.out x _).mono ?_); rintro e v0 ⟨rfl, hx2⟩; have ht0 := HS0.out.next hx2; rw [G0.out]; obtain ⟨⟨b0, b1⟩, ⟨b2, b3⟩, b4, b5⟩ := ht0.out.three)
          have HS1 := Lib.hid (ht0.set0 hl1 hl2 (.int .i64 (mulR x m)))
          have HB1 := Lib.hid ((HB0.out.ext hx2).other (by omega : w.heap.size + 1 + 1 ≠ w.heap.size) 0 (.int .i64 (mulR x m)))
          clear ht0 hx2 b0 b1 b2 b3 b4 b5 b6 b7 b8
          generalize v0.setCell ⟨w.heap.size + 1 + 1, 0, none⟩ (.int .i64 (mulR x m)) = wa1 at *
          rw [rounds_succ]
          obtain ⟨⟨b6, _⟩, ⟨b7, _⟩, b8, _⟩ := HB1.out.three
          go_wp2_with (go_at_call 88; (refine (HM.out y _).mono ?_); rintro e v1 ⟨rfl, hx3⟩; have ht1 := HS1.out.next hx3; rw [G1.out]; obtain ⟨⟨b0, b1⟩, ⟨b2, b3⟩, b4, b5⟩ := ht1.out.three)
          have HS2 := Lib.hid (ht1.set1 hl1 hl2 (.int .i64 (mulR y m)))
          have HB2 := Lib.hid ((HB1.out.ext hx3).other (by omega : w.heap.size + 1 + 1 ≠ w.heap.size) 1 (.int .i64 (mulR y m)))
          clear ht1 hx3 b0 b1 b2 b3 b4 b5 b6 b7 b8
          generalize v1.setCell ⟨w.heap.size + 1 + 1, 1, none⟩ (.int .i64 (mulR y m)) = wa2 at *
          rw [rounds_succ]
          obtain ⟨⟨b6, _⟩, ⟨b7, _⟩, b8, _⟩ := HB2.out.three
          go_wp2_with (go_at_call 88; (refine (HM.out z _).mono ?_); rintro e v2 ⟨rfl, hx4⟩; have ht2 := HS2.out.next hx4; obtain ⟨⟨b0, b1⟩, ⟨b2, b3⟩, b4, b5⟩ := ht2.res.three)
          have HZ := Lib.hid (show Lies _ (w.heap.size + 1) #[.int .i64 0, .int .i64 0, .int .i64 0] 24 from (((ht2.res).set 0 (.int .i64 0)).set 1 (.int .i64 0)).set 2 (.int .i64 0))
          have HXZ := Lib.hid (show Ext _ (((v2.setCell ⟨(w.heap.size + 1), 0, none⟩ (.int .i64 0)).setCell ⟨(w.heap.size + 1), 1, none⟩ (.int .i64 0)).setCell ⟨(w.heap.size + 1), 2, none⟩ (.int .i64 0)) from ((ht2.ext.set hl0 _).set hl0 _).set hl0 _)
          generalize (((v2.setCell ⟨(w.heap.size + 1), 0, none⟩ (.int .i64 0)).setCell ⟨(w.heap.size + 1), 1, none⟩ (.int .i64 0)).setCell ⟨(w.heap.size + 1), 2, none⟩ (.int .i64 0)) = wz at *
          obtain ⟨⟨k0, _⟩, ⟨k1, _⟩, k2, _⟩ := HZ.out.three
          refine bodyPost_ret (v := .tuple #[.agg #[.int .i64 0, .int .i64 0, .int .i64 0], .int .i64 (mulE z m)]) (by simp [results, Try.results26, go_sem, k0, k1, k2]) rfl ⟨?_, HXZ.out⟩
          rfl
      · rw [show e3 (mulE x m) (mulE y m) (mulE z m) = mulE y m from by simp [e3, h0, h1]]
        have hrr : ∀ r, r3 (mulE x m) (mulE y m) (mulE z m) r = 0 := by intro r; simp [r3, e3, h0, h1]
        rw [hrr, hrr, hrr]
        have G0 := Lib.hid h0
        have h1b : (mulE y m != 0) = true := by simpa using h1
        clear hrr
        clear h0
        clear HH0
        go_enter Try.func26, Try.ntmps26
        go_wp2_with (go_at_call 47; (with_reducible refine (rone_vec _ _ _ _).mono ?_); rintro e w1 ⟨rfl, hx1⟩; rw [hv]; have hs0 := HS.out.next hx1; have hb0 := HB.out.ext hx1)
        have HS0 := Lib.hid hs0; have HB0 := Lib.hid hb0; clear hs0 hb0 HS HB
        generalize w1 = wa0 at *
        refine wp_loop_rounds 4 ?_
        rw [rounds_succ]
        obtain ⟨⟨b6, _⟩, ⟨b7, _⟩, b8, _⟩ := HB0.out.three
        go_wp2_with (go_at_call 88; (refine (HM.out x _).mono ?_); rintro e v0 ⟨rfl, hx2⟩; have ht0 := HS0.out.next hx2; rw [G0.out]; obtain ⟨⟨b0, b1⟩, ⟨b2, b3⟩, b4, b5⟩ := ht0.out.three)
        have HS1 := Lib.hid (ht0.set0 hl1 hl2 (.int .i64 (mulR x m)))
        have HB1 := Lib.hid ((HB0.out.ext hx2).other (by omega : w.heap.size + 1 + 1 ≠ w.heap.size) 0 (.int .i64 (mulR x m)))
        clear ht0 hx2 b0 b1 b2 b3 b4 b5 b6 b7 b8
        generalize v0.setCell ⟨w.heap.size + 1 + 1, 0, none⟩ (.int .i64 (mulR x m)) = wa1 at *
        rw [rounds_succ]
        obtain ⟨⟨b6, _⟩, ⟨b7, _⟩, b8, _⟩ := HB1.out.three
        go_wp2_with (go_at_call 88; (refine (HM.out y _).mono ?_); rintro e v1 ⟨rfl, hx3⟩; have ht1 := HS1.out.next hx3; obtain ⟨⟨b0, b1⟩, ⟨b2, b3⟩, b4, b5⟩ := ht1.res.three)
        have HZ := Lib.hid (show Lies _ (w.heap.size + 1) #[.int .i64 0, .int .i64 0, .int .i64 0] 24 from (((ht1.res).set 0 (.int .i64 0)).set 1 (.int .i64 0)).set 2 (.int .i64 0))
        have HXZ := Lib.hid (show Ext _ (((v1.setCell ⟨(w.heap.size + 1), 0, none⟩ (.int .i64 0)).setCell ⟨(w.heap.size + 1), 1, none⟩ (.int .i64 0)).setCell ⟨(w.heap.size + 1), 2, none⟩ (.int .i64 0)) from ((ht1.ext.set hl0 _).set hl0 _).set hl0 _)
        generalize (((v1.setCell ⟨(w.heap.size + 1), 0, none⟩ (.int .i64 0)).setCell ⟨(w.heap.size + 1), 1, none⟩ (.int .i64 0)).setCell ⟨(w.heap.size + 1), 2, none⟩ (.int .i64 0)) = wz at *
        obtain ⟨⟨k0, _⟩, ⟨k1, _⟩, k2, _⟩ := HZ.out.three
        refine bodyPost_ret (v := .tuple #[.agg #[.int .i64 0, .int .i64 0, .int .i64 0], .int .i64 (mulE y m)]) (by simp [results, Try.results26, go_sem, k0, k1, k2]) rfl ⟨?_, HXZ.out⟩
        rfl
    · rw [show e3 (mulE x m) (mulE y m) (mulE z m) = mulE x m from by simp [e3, h0]]
      have hrr : ∀ r, r3 (mulE x m) (mulE y m) (mulE z m) r = 0 := by intro r; simp [r3, e3, h0]
      rw [hrr, hrr, hrr]
      have h0b : (mulE x m != 0) = true := by simpa using h0
      clear hrr
      go_enter Try.func26, Try.ntmps26
      go_wp2_with (go_at_call 47; (with_reducible refine (rone_vec _ _ _ _).mono ?_); rintro e w1 ⟨rfl, hx1⟩; rw [hv]; have hs0 := HS.out.next hx1; have hb0 := HB.out.ext hx1)
      have HS0 := Lib.hid hs0; have HB0 := Lib.hid hb0; clear hs0 hb0 HS HB
      generalize w1 = wa0 at *
      refine wp_loop_rounds 4 ?_
      rw [rounds_succ]
      obtain ⟨⟨b6, _⟩, ⟨b7, _⟩, b8, _⟩ := HB0.out.three
      go_wp2_with (go_at_call 88; (refine (HM.out x _).mono ?_); rintro e v0 ⟨rfl, hx2⟩; have ht0 := HS0.out.next hx2; obtain ⟨⟨b0, b1⟩, ⟨b2, b3⟩, b4, b5⟩ := ht0.res.three)
      have HZ := Lib.hid (show Lies _ (w.heap.size + 1) #[.int .i64 0, .int .i64 0, .int .i64 0] 24 from (((ht0.res).set 0 (.int .i64 0)).set 1 (.int .i64 0)).set 2 (.int .i64 0))
      have HXZ := Lib.hid (show Ext _ (((v0.setCell ⟨(w.heap.size + 1), 0, none⟩ (.int .i64 0)).setCell ⟨(w.heap.size + 1), 1, none⟩ (.int .i64 0)).setCell ⟨(w.heap.size + 1), 2, none⟩ (.int .i64 0)) from ((ht0.ext.set hl0 _).set hl0 _).set hl0 _)
      generalize (((v0.setCell ⟨(w.heap.size + 1), 0, none⟩ (.int .i64 0)).setCell ⟨(w.heap.size + 1), 1, none⟩ (.int .i64 0)).setCell ⟨(w.heap.size + 1), 2, none⟩ (.int .i64 0)) = wz at *
      obtain ⟨⟨k0, _⟩, ⟨k1, _⟩, k2, _⟩ := HZ.out.three
      refine bodyPost_ret (v := .tuple #[.agg #[.int .i64 0, .int .i64 0, .int .i64 0], .int .i64 (mulE x m)]) (by simp [results, Try.results26, go_sem, k0, k1, k2]) rfl ⟨?_, HXZ.out⟩
      rfl
end Go.Proofs.Ytmgckodihnmjoaa
