/-
  The reference of layer 2: sums; walked. Conditions: slices that are read lie in memory. (Printed by tools/genref02c.py.)
-/
import Derived.Test.YtmgckodihnmjoaaRef02a
set_option linter.unusedVariables false
set_option linter.unusedSimpArgs false
namespace Go.Proofs.Ytmgckodihnmjoaa
open Go.RowKit

theorem addE_long {xs : List Int} (h : 1024 < xs.length) : addE xs = 1 := by
  unfold addE addB
  rw [if_neg]
  simp; omega
theorem addvE_long {f : Nat → Nat → Int} {n : Nat} (h : 1024 < n) : addvE f n = 1 := by
  unfold addvE
  split
  · rw [addE_long (by rw [colL_len]; exact h)]; simp [e3]
  · rfl
theorem addvR_long {f : Nat → Nat → Int} {n : Nat} (h : 1024 < n) (k : Nat) : addvR f n k = 0 := by
  unfold addvR
  split
  · exact r3_no (by rw [addE_long (by rw [colL_len]; exact h)]; simp [e3]) _
  · rfl
set_option maxRecDepth 20000 in
set_option maxHeartbeats 3200000 in
theorem rvadd_any (A : Option Addr) (c n : Nat) (f : Nat → Nat → Int) (w : World) (h : RdM 3 w A n f) (hn : n ≤ 1000000) : Calls Try.prog 19 #[.slice A n c] w (RetV w (addvE f n) (addvR f n 0) (addvR f n 1) (addvR f n 2)) := by
  have H := Lib.hid h; clear h
  have hl0 : w.heap.size ≤ w.heap.size := by omega
  have hc := Lies.new w #[.int .i64 0, .int .i64 0, .int .i64 0] 24 _ rfl
  have hx0 : Ext w (w.alloc (.cells #[.int .i64 0, .int .i64 0, .int .i64 0] 24)) := (Ext.refl _).alloc _
  have HC := Lib.hid hc; have HX := Lib.hid hx0; clear hc hx0
  cases hv : vecsB f n
  · have hE : Hid (addvE f n = 1) := by show _ = _; simp [addvE, hv]
    have hR : Hid (∀ k, addvR f n k = 0) := by show ∀ _, _; intro k; simp [addvR, hv]
    go_enter Try.func19, Try.ntmps19
    go_wp2_with (go_at_call 23; (with_reducible refine (rvright_any _ _ _ _ _ (H.out.ext HX.out)).mono ?_); rintro e w1 ⟨rfl, hx1⟩; rw [hv]; have hc1 := HC.out.ext hx1; obtain ⟨⟨b0, b1⟩, ⟨b2, b3⟩, b4, b5⟩ := hc1.three)
    rw [hE.out, hR.out, hR.out, hR.out]
    have HZ := Lib.hid (show Lies _ w.heap.size #[.int .i64 0, .int .i64 0, .int .i64 0] 24 from (((hc1).set 0 (.int .i64 0)).set 1 (.int .i64 0)).set 2 (.int .i64 0))
    have HXZ := Lib.hid (show Ext _ (((w1.setCell ⟨w.heap.size, 0, none⟩ (.int .i64 0)).setCell ⟨w.heap.size, 1, none⟩ (.int .i64 0)).setCell ⟨w.heap.size, 2, none⟩ (.int .i64 0)) from (((HX.out.trans hx1).set hl0 _).set hl0 _).set hl0 _)
    generalize (((w1.setCell ⟨w.heap.size, 0, none⟩ (.int .i64 0)).setCell ⟨w.heap.size, 1, none⟩ (.int .i64 0)).setCell ⟨w.heap.size, 2, none⟩ (.int .i64 0)) = wz at *
    obtain ⟨⟨k0, _⟩, ⟨k1, _⟩, k2, _⟩ := HZ.out.three
    refine bodyPost_ret (v := .tuple #[.agg #[.int .i64 0, .int .i64 0, .int .i64 0], .int .i64 1]) (by simp [results, Try.results19, go_sem, k0, k1, k2]) rfl ⟨?_, HXZ.out⟩
    rfl
  by_cases hlong : 1024 < n
  · have hE : Hid (addvE f n = 1) := addvE_long hlong
    have hR : Hid (∀ k, addvR f n k = 0) := fun k => addvR_long hlong k
    go_enter Try.func19, Try.ntmps19
    go_wp2_with (go_at_call 23; (with_reducible refine (rvright_any _ _ _ _ _ (H.out.ext HX.out)).mono ?_); rintro e w1 ⟨rfl, hx1⟩; rw [hv]; have hc1 := HC.out.ext hx1; obtain ⟨⟨b0, b1⟩, ⟨b2, b3⟩, b4, b5⟩ := hc1.three)
    rw [hE.out, hR.out, hR.out, hR.out]
    have HZ := Lib.hid (show Lies _ w.heap.size #[.int .i64 0, .int .i64 0, .int .i64 0] 24 from (((hc1).set 0 (.int .i64 0)).set 1 (.int .i64 0)).set 2 (.int .i64 0))
    have HXZ := Lib.hid (show Ext _ (((w1.setCell ⟨w.heap.size, 0, none⟩ (.int .i64 0)).setCell ⟨w.heap.size, 1, none⟩ (.int .i64 0)).setCell ⟨w.heap.size, 2, none⟩ (.int .i64 0)) from (((HX.out.trans hx1).set hl0 _).set hl0 _).set hl0 _)
    generalize (((w1.setCell ⟨w.heap.size, 0, none⟩ (.int .i64 0)).setCell ⟨w.heap.size, 1, none⟩ (.int .i64 0)).setCell ⟨w.heap.size, 2, none⟩ (.int .i64 0)) = wz at *
    obtain ⟨⟨k0, _⟩, ⟨k1, _⟩, k2, _⟩ := HZ.out.three
    refine bodyPost_ret (v := .tuple #[.agg #[.int .i64 0, .int .i64 0, .int .i64 0], .int .i64 1]) (by simp [results, Try.results19, go_sem, k0, k1, k2]) rfl ⟨?_, HXZ.out⟩
    rfl
  have hE : Hid (addvE f n = e3 (addE (colL f 0 n)) (addE (colL f 1 n)) (addE (colL f 2 n))) := by show _ = _; simp [addvE, hv]
  have hR : Hid (∀ k, addvR f n k = r3 (addE (colL f 0 n)) (addE (colL f 1 n)) (addE (colL f 2 n)) (addR (colL f k n))) := by show ∀ _, _; intro k; simp [addvR, hv]
  rw [hE.out, hR.out, hR.out, hR.out]
  clear hE hR
  by_cases h0 : addE (colL f 0 n) = 0
  · by_cases h1 : addE (colL f 1 n) = 0
    · by_cases h2 : addE (colL f 2 n) = 0
      · rw [show e3 (addE (colL f 0 n)) (addE (colL f 1 n)) (addE (colL f 2 n)) = 0 from by simp [e3, h0, h1, h2]]
        have hrr : ∀ r, r3 (addE (colL f 0 n)) (addE (colL f 1 n)) (addE (colL f 2 n)) r = r := by intro r; simp [r3, e3, h0, h1, h2]
        rw [hrr, hrr, hrr]
        have G0 := Lib.hid h0
        have G1 := Lib.hid h1
        have G2 := Lib.hid h2
        clear hrr h0 h1 h2
        go_enter Try.func19, Try.ntmps19
        go_wp2_with (go_at_call 23; (with_reducible refine (rvright_any _ _ _ _ _ (H.out.ext HX.out)).mono ?_); rintro e w1 ⟨rfl, hx1⟩; rw [hv])
        have hs0 : Each2 w (w1.alloc (.cells #[.int .i64 0, .int .i64 0, .int .i64 0] 24)) w.heap.size w1.heap.size (.int .i64 0) (.int .i64 0) (.int .i64 0) := ⟨(HX.out.trans hx1).alloc _, HC.out.ext (hx1.alloc _), Lies.new _ _ _ _ rfl⟩
        have HS0 := Lib.hid hs0
        have hl3 : w.heap.size < w1.heap.size := (HC.out.ext hx1).lt
        have hl1 : w.heap.size ≤ w1.heap.size := by omega
        have hl2 : w1.heap.size ≠ w.heap.size := by omega
        clear hs0 hx1 HC HX
        generalize w1.alloc (.cells #[.int .i64 0, .int .i64 0, .int .i64 0] 24) = wa0 at *
        generalize w1.heap.size = go at *
        refine wp_loop_rounds 4 ?_
        rw [rounds_succ]
        go_wp2
        go_loopw [7, 8] (fun o i wr => ∃ j : Nat, j ≤ n ∧ i = .int .i64 j ∧ Own 22 .i64 wa0.heap.size wr o (colL f 0 j) ∧ Ext wa0 wr) (fun _ i _ => n - (intOf i).toNat)
        case atStart => exact ⟨0, by omega, rfl, Own.nil _ _ _ _, Ext.refl _⟩
        case round =>
          obtain ⟨j, hj, rfl, ho, hx⟩ := hrel
          by_cases hlt : j < n
          · obtain ⟨ad, rfl, hcl⟩ := (H.out.ext (HS0.out.ext.trans hx)).2 j hlt
            have cc := el_0 (hcl 0 (by decide))
            clear hcl
            have hln : Hid (((colL f 0 j).length + 1) * 8 ≤ 140737488355328) := by show _ ≤ _; rw [colL_len]; omega
            go_wp2_with (at_builtin; refine app_one (w0 := wa0) 8 Try.underlying66 vinfo_F (by decide) _ _ rfl rfl rfl ho hx hln.out ?_; intro v1 w1 ho1 hx1)
            go_roundw
            case rel => exact ⟨j + 1, by omega, by go_num, ho1, hx1⟩
            case measure => simp [intOf]; omega
          · obtain rfl : n = j := by omega
            obtain ⟨wi0, rfl⟩ : ∃ wi : World, wi = wr := ⟨_, rfl⟩
            obtain ⟨A0, c0, rfl, hr0, _⟩ := ho.read
            have hr0 := Lib.hid hr0
            rw [colL_len]
            have ht0 := HS0.out.next hx
            obtain ⟨⟨b0, b1⟩, ⟨b2, b3⟩, b4, b5⟩ := ht0.out.three
            clear ho hx
            have hra := radd_any A0 c0 (colL f 0 n) wi0 hr0.out; rw [colL_len] at hra; have hra := Lib.hid hra
            go_wp2_with (go_at_call 83; (with_reducible refine (hra.out).mono ?_); rintro e y0 ⟨rfl, rfl⟩; rw [G0.out])
            have HS1 := Lib.hid (ht0.set0 hl1 hl2 (.int .i64 (addR (colL f 0 n))))
            clear ht0 b0 b1 b2 b3 b4 b5 hra
            generalize wi0.setCell ⟨go, 0, none⟩ (.int .i64 (addR (colL f 0 n))) = wa1 at *
            rw [rounds_succ]
            go_wp2
            go_loopw [7, 8] (fun o i wr => ∃ j : Nat, j ≤ n ∧ i = .int .i64 j ∧ Own 22 .i64 wa1.heap.size wr o (colL f 1 j) ∧ Ext wa1 wr) (fun _ i _ => n - (intOf i).toNat)
            case atStart => exact ⟨0, by omega, rfl, Own.nil _ _ _ _, Ext.refl _⟩
            case round =>
              obtain ⟨j, hj, rfl, ho, hx⟩ := hrel
              by_cases hlt : j < n
              · obtain ⟨ad, rfl, hcl⟩ := (H.out.ext (HS1.out.ext.trans hx)).2 j hlt
                have cc := el_s (hcl 1 (by decide))
                clear hcl
                have hln : Hid (((colL f 1 j).length + 1) * 8 ≤ 140737488355328) := by show _ ≤ _; rw [colL_len]; omega
                go_wp2_with (at_builtin; refine app_one (w0 := wa1) 8 Try.underlying66 vinfo_F (by decide) _ _ rfl rfl rfl ho hx hln.out ?_; intro v1 w1 ho1 hx1)
                go_roundw
                case rel => exact ⟨j + 1, by omega, by go_num, ho1, hx1⟩
                case measure => simp [intOf]; omega
              · obtain rfl : n = j := by omega
                obtain ⟨wi1, rfl⟩ : ∃ wi : World, wi = wr := ⟨_, rfl⟩
                obtain ⟨A1, c1, rfl, hr1, _⟩ := ho.read
                have hr1 := Lib.hid hr1
                rw [colL_len]
                have ht1 := HS1.out.next hx
                obtain ⟨⟨b0, b1⟩, ⟨b2, b3⟩, b4, b5⟩ := ht1.out.three
                clear ho hx
                have hra := radd_any A1 c1 (colL f 1 n) wi1 hr1.out; rw [colL_len] at hra; have hra := Lib.hid hra
                go_wp2_with (go_at_call 83; (with_reducible refine (hra.out).mono ?_); rintro e y1 ⟨rfl, rfl⟩; rw [G1.out])
                have HS2 := Lib.hid (ht1.set1 hl1 hl2 (.int .i64 (addR (colL f 1 n))))
                clear ht1 b0 b1 b2 b3 b4 b5 hra
                generalize wi1.setCell ⟨go, 1, none⟩ (.int .i64 (addR (colL f 1 n))) = wa2 at *
                rw [rounds_succ]
                go_wp2
                go_loopw [7, 8] (fun o i wr => ∃ j : Nat, j ≤ n ∧ i = .int .i64 j ∧ Own 22 .i64 wa2.heap.size wr o (colL f 2 j) ∧ Ext wa2 wr) (fun _ i _ => n - (intOf i).toNat)
                case atStart => exact ⟨0, by omega, rfl, Own.nil _ _ _ _, Ext.refl _⟩
                case round =>
                  obtain ⟨j, hj, rfl, ho, hx⟩ := hrel
                  by_cases hlt : j < n
                  · obtain ⟨ad, rfl, hcl⟩ := (H.out.ext (HS2.out.ext.trans hx)).2 j hlt
                    have cc := el_s (hcl 2 (by decide))
                    clear hcl
                    have hln : Hid (((colL f 2 j).length + 1) * 8 ≤ 140737488355328) := by show _ ≤ _; rw [colL_len]; omega
                    go_wp2_with (at_builtin; refine app_one (w0 := wa2) 8 Try.underlying66 vinfo_F (by decide) _ _ rfl rfl rfl ho hx hln.out ?_; intro v1 w1 ho1 hx1)
                    go_roundw
                    case rel => exact ⟨j + 1, by omega, by go_num, ho1, hx1⟩
                    case measure => simp [intOf]; omega
                  · obtain rfl : n = j := by omega
                    obtain ⟨wi2, rfl⟩ : ∃ wi : World, wi = wr := ⟨_, rfl⟩
                    obtain ⟨A2, c2, rfl, hr2, _⟩ := ho.read
                    have hr2 := Lib.hid hr2
                    rw [colL_len]
                    have ht2 := HS2.out.next hx
                    obtain ⟨⟨b0, b1⟩, ⟨b2, b3⟩, b4, b5⟩ := ht2.out.three
                    clear ho hx
                    have hra := radd_any A2 c2 (colL f 2 n) wi2 hr2.out; rw [colL_len] at hra; have hra := Lib.hid hra
                    go_wp2_with (go_at_call 83; (with_reducible refine (hra.out).mono ?_); rintro e y2 ⟨rfl, rfl⟩; rw [G2.out])
                    have HS3 := Lib.hid (ht2.set2 hl1 hl2 (.int .i64 (addR (colL f 2 n))))
                    clear ht2 b0 b1 b2 b3 b4 b5 hra
                    generalize wi2.setCell ⟨go, 2, none⟩ (.int .i64 (addR (colL f 2 n))) = wa3 at *
                    rw [rounds_succ]
                    obtain ⟨⟨b0, b1⟩, ⟨b2, b3⟩, b4, b5⟩ := HS3.out.res.three
                    obtain ⟨⟨b6, _⟩, ⟨b7, _⟩, b8, _⟩ := HS3.out.out.three
                    go_wp2
                    have HZ := Lib.hid (show Lies _ w.heap.size #[.int .i64 (addR (colL f 0 n)), .int .i64 (addR (colL f 1 n)), .int .i64 (addR (colL f 2 n))] 24 from (((HS3.out.res).set 0 (.int .i64 (addR (colL f 0 n)))).set 1 (.int .i64 (addR (colL f 1 n)))).set 2 (.int .i64 (addR (colL f 2 n))))
                    have HXZ := Lib.hid (show Ext _ (((wa3.setCell ⟨w.heap.size, 0, none⟩ (.int .i64 (addR (colL f 0 n)))).setCell ⟨w.heap.size, 1, none⟩ (.int .i64 (addR (colL f 1 n)))).setCell ⟨w.heap.size, 2, none⟩ (.int .i64 (addR (colL f 2 n)))) from ((HS3.out.ext.set hl0 _).set hl0 _).set hl0 _)
                    generalize (((wa3.setCell ⟨w.heap.size, 0, none⟩ (.int .i64 (addR (colL f 0 n)))).setCell ⟨w.heap.size, 1, none⟩ (.int .i64 (addR (colL f 1 n)))).setCell ⟨w.heap.size, 2, none⟩ (.int .i64 (addR (colL f 2 n)))) = wz at *
                    obtain ⟨⟨k0, _⟩, ⟨k1, _⟩, k2, _⟩ := HZ.out.three
                    refine bodyPost_ret (v := .tuple #[.agg #[.int .i64 (addR (colL f 0 n)), .int .i64 (addR (colL f 1 n)), .int .i64 (addR (colL f 2 n))], .int .i64 0]) (by simp [results, Try.results19, go_sem, k0, k1, k2]) rfl ⟨?_, HXZ.out⟩
                    rfl
      · rw [show e3 (addE (colL f 0 n)) (addE (colL f 1 n)) (addE (colL f 2 n)) = addE (colL f 2 n) from by simp [e3, h0, h1, h2]]
        have hrr : ∀ r, r3 (addE (colL f 0 n)) (addE (colL f 1 n)) (addE (colL f 2 n)) r = 0 := by intro r; simp [r3, e3, h0, h1, h2]
        rw [hrr, hrr, hrr]
        have hb : (addE (colL f 2 n) != 0) = true := by simpa using h2
        have G0 := Lib.hid h0
        have G1 := Lib.hid h1
        clear hrr h0 h1
        go_enter Try.func19, Try.ntmps19
        go_wp2_with (go_at_call 23; (with_reducible refine (rvright_any _ _ _ _ _ (H.out.ext HX.out)).mono ?_); rintro e w1 ⟨rfl, hx1⟩; rw [hv])
        have hs0 : Each2 w (w1.alloc (.cells #[.int .i64 0, .int .i64 0, .int .i64 0] 24)) w.heap.size w1.heap.size (.int .i64 0) (.int .i64 0) (.int .i64 0) := ⟨(HX.out.trans hx1).alloc _, HC.out.ext (hx1.alloc _), Lies.new _ _ _ _ rfl⟩
        have HS0 := Lib.hid hs0
        have hl3 : w.heap.size < w1.heap.size := (HC.out.ext hx1).lt
        have hl1 : w.heap.size ≤ w1.heap.size := by omega
        have hl2 : w1.heap.size ≠ w.heap.size := by omega
        clear hs0 hx1 HC HX
        generalize w1.alloc (.cells #[.int .i64 0, .int .i64 0, .int .i64 0] 24) = wa0 at *
        generalize w1.heap.size = go at *
        refine wp_loop_rounds 4 ?_
        rw [rounds_succ]
        go_wp2
        go_loopw [7, 8] (fun o i wr => ∃ j : Nat, j ≤ n ∧ i = .int .i64 j ∧ Own 22 .i64 wa0.heap.size wr o (colL f 0 j) ∧ Ext wa0 wr) (fun _ i _ => n - (intOf i).toNat)
        case atStart => exact ⟨0, by omega, rfl, Own.nil _ _ _ _, Ext.refl _⟩
        case round =>
          obtain ⟨j, hj, rfl, ho, hx⟩ := hrel
          by_cases hlt : j < n
          · obtain ⟨ad, rfl, hcl⟩ := (H.out.ext (HS0.out.ext.trans hx)).2 j hlt
            have cc := el_0 (hcl 0 (by decide))
            clear hcl
            have hln : Hid (((colL f 0 j).length + 1) * 8 ≤ 140737488355328) := by show _ ≤ _; rw [colL_len]; omega
            go_wp2_with (at_builtin; refine app_one (w0 := wa0) 8 Try.underlying66 vinfo_F (by decide) _ _ rfl rfl rfl ho hx hln.out ?_; intro v1 w1 ho1 hx1)
            go_roundw
            case rel => exact ⟨j + 1, by omega, by go_num, ho1, hx1⟩
            case measure => simp [intOf]; omega
          · obtain rfl : n = j := by omega
            obtain ⟨wi0, rfl⟩ : ∃ wi : World, wi = wr := ⟨_, rfl⟩
            obtain ⟨A0, c0, rfl, hr0, _⟩ := ho.read
            have hr0 := Lib.hid hr0
            rw [colL_len]
            have ht0 := HS0.out.next hx
            obtain ⟨⟨b0, b1⟩, ⟨b2, b3⟩, b4, b5⟩ := ht0.out.three
            clear ho hx
            have hra := radd_any A0 c0 (colL f 0 n) wi0 hr0.out; rw [colL_len] at hra; have hra := Lib.hid hra
            go_wp2_with (go_at_call 83; (with_reducible refine (hra.out).mono ?_); rintro e y0 ⟨rfl, rfl⟩; rw [G0.out])
            have HS1 := Lib.hid (ht0.set0 hl1 hl2 (.int .i64 (addR (colL f 0 n))))
            clear ht0 b0 b1 b2 b3 b4 b5 hra
            generalize wi0.setCell ⟨go, 0, none⟩ (.int .i64 (addR (colL f 0 n))) = wa1 at *
            rw [rounds_succ]
            go_wp2
            go_loopw [7, 8] (fun o i wr => ∃ j : Nat, j ≤ n ∧ i = .int .i64 j ∧ Own 22 .i64 wa1.heap.size wr o (colL f 1 j) ∧ Ext wa1 wr) (fun _ i _ => n - (intOf i).toNat)
            case atStart => exact ⟨0, by omega, rfl, Own.nil _ _ _ _, Ext.refl _⟩
            case round =>
              obtain ⟨j, hj, rfl, ho, hx⟩ := hrel
              by_cases hlt : j < n
              · obtain ⟨ad, rfl, hcl⟩ := (H.out.ext (HS1.out.ext.trans hx)).2 j hlt
                have cc := el_s (hcl 1 (by decide))
                clear hcl
                have hln : Hid (((colL f 1 j).length + 1) * 8 ≤ 140737488355328) := by show _ ≤ _; rw [colL_len]; omega
                go_wp2_with (at_builtin; refine app_one (w0 := wa1) 8 Try.underlying66 vinfo_F (by decide) _ _ rfl rfl rfl ho hx hln.out ?_; intro v1 w1 ho1 hx1)
                go_roundw
                case rel => exact ⟨j + 1, by omega, by go_num, ho1, hx1⟩
                case measure => simp [intOf]; omega
              · obtain rfl : n = j := by omega
                obtain ⟨wi1, rfl⟩ : ∃ wi : World, wi = wr := ⟨_, rfl⟩
                obtain ⟨A1, c1, rfl, hr1, _⟩ := ho.read
                have hr1 := Lib.hid hr1
                rw [colL_len]
                have ht1 := HS1.out.next hx
                obtain ⟨⟨b0, b1⟩, ⟨b2, b3⟩, b4, b5⟩ := ht1.out.three
                clear ho hx
                have hra := radd_any A1 c1 (colL f 1 n) wi1 hr1.out; rw [colL_len] at hra; have hra := Lib.hid hra
                go_wp2_with (go_at_call 83; (with_reducible refine (hra.out).mono ?_); rintro e y1 ⟨rfl, rfl⟩; rw [G1.out])
                have HS2 := Lib.hid (ht1.set1 hl1 hl2 (.int .i64 (addR (colL f 1 n))))
                clear ht1 b0 b1 b2 b3 b4 b5 hra
                generalize wi1.setCell ⟨go, 1, none⟩ (.int .i64 (addR (colL f 1 n))) = wa2 at *
                rw [rounds_succ]
                go_wp2
                go_loopw [7, 8] (fun o i wr => ∃ j : Nat, j ≤ n ∧ i = .int .i64 j ∧ Own 22 .i64 wa2.heap.size wr o (colL f 2 j) ∧ Ext wa2 wr) (fun _ i _ => n - (intOf i).toNat)
                case atStart => exact ⟨0, by omega, rfl, Own.nil _ _ _ _, Ext.refl _⟩
                case round =>
                  obtain ⟨j, hj, rfl, ho, hx⟩ := hrel
                  by_cases hlt : j < n
                  · obtain ⟨ad, rfl, hcl⟩ := (H.out.ext (HS2.out.ext.trans hx)).2 j hlt
                    have cc := el_s (hcl 2 (by decide))
                    clear hcl
                    have hln : Hid (((colL f 2 j).length + 1) * 8 ≤ 140737488355328) := by show _ ≤ _; rw [colL_len]; omega
                    go_wp2_with (at_builtin; refine app_one (w0 := wa2) 8 Try.underlying66 vinfo_F (by decide) _ _ rfl rfl rfl ho hx hln.out ?_; intro v1 w1 ho1 hx1)
                    go_roundw
                    case rel => exact ⟨j + 1, by omega, by go_num, ho1, hx1⟩
                    case measure => simp [intOf]; omega
                  · obtain rfl : n = j := by omega
                    obtain ⟨wi2, rfl⟩ : ∃ wi : World, wi = wr := ⟨_, rfl⟩
                    obtain ⟨A2, c2, rfl, hr2, _⟩ := ho.read
                    have hr2 := Lib.hid hr2
                    rw [colL_len]
                    have ht2 := HS2.out.next hx
                    obtain ⟨⟨b0, b1⟩, ⟨b2, b3⟩, b4, b5⟩ := ht2.res.three
                    clear ho hx
                    have hra := radd_any A2 c2 (colL f 2 n) wi2 hr2.out; rw [colL_len] at hra; have hra := Lib.hid hra
                    go_wp2_with (go_at_call 83; (with_reducible refine (hra.out).mono ?_); rintro e y2 ⟨rfl, rfl⟩)
                    have HZ := Lib.hid (show Lies _ w.heap.size #[.int .i64 0, .int .i64 0, .int .i64 0] 24 from (((ht2.res).set 0 (.int .i64 0)).set 1 (.int .i64 0)).set 2 (.int .i64 0))
                    have HXZ := Lib.hid (show Ext _ (((wi2.setCell ⟨w.heap.size, 0, none⟩ (.int .i64 0)).setCell ⟨w.heap.size, 1, none⟩ (.int .i64 0)).setCell ⟨w.heap.size, 2, none⟩ (.int .i64 0)) from ((ht2.ext.set hl0 _).set hl0 _).set hl0 _)
                    generalize (((wi2.setCell ⟨w.heap.size, 0, none⟩ (.int .i64 0)).setCell ⟨w.heap.size, 1, none⟩ (.int .i64 0)).setCell ⟨w.heap.size, 2, none⟩ (.int .i64 0)) = wz at *
                    obtain ⟨⟨k0, _⟩, ⟨k1, _⟩, k2, _⟩ := HZ.out.three
                    refine bodyPost_ret (v := .tuple #[.agg #[.int .i64 0, .int .i64 0, .int .i64 0], .int .i64 (addE (colL f 2 n))]) (by simp [results, Try.results19, go_sem, k0, k1, k2]) rfl ⟨?_, HXZ.out⟩
                    rfl
    · rw [show e3 (addE (colL f 0 n)) (addE (colL f 1 n)) (addE (colL f 2 n)) = addE (colL f 1 n) from by simp [e3, h0, h1]]
      have hrr : ∀ r, r3 (addE (colL f 0 n)) (addE (colL f 1 n)) (addE (colL f 2 n)) r = 0 := by intro r; simp [r3, e3, h0, h1]
      rw [hrr, hrr, hrr]
      have hb : (addE (colL f 1 n) != 0) = true := by simpa using h1
      have G0 := Lib.hid h0
      clear hrr h0
      go_enter Try.func19, Try.ntmps19
      go_wp2_with (go_at_call 23; (with_reducible refine (rvright_any _ _ _ _ _ (H.out.ext HX.out)).mono ?_); rintro e w1 ⟨rfl, hx1⟩; rw [hv])
      have hs0 : Each2 w (w1.alloc (.cells #[.int .i64 0, .int .i64 0, .int .i64 0] 24)) w.heap.size w1.heap.size (.int .i64 0) (.int .i64 0) (.int .i64 0) := ⟨(HX.out.trans hx1).alloc _, HC.out.ext (hx1.alloc _), Lies.new _ _ _ _ rfl⟩
      have HS0 := Lib.hid hs0
      have hl3 : w.heap.size < w1.heap.size := (HC.out.ext hx1).lt
      have hl1 : w.heap.size ≤ w1.heap.size := by omega
      have hl2 : w1.heap.size ≠ w.heap.size := by omega
      clear hs0 hx1 HC HX
      generalize w1.alloc (.cells #[.int .i64 0, .int .i64 0, .int .i64 0] 24) = wa0 at *
      generalize w1.heap.size = go at *
      refine wp_loop_rounds 4 ?_
      rw [rounds_succ]
      go_wp2
      go_loopw [7, 8] (fun o i wr => ∃ j : Nat, j ≤ n ∧ i = .int .i64 j ∧ Own 22 .i64 wa0.heap.size wr o (colL f 0 j) ∧ Ext wa0 wr) (fun _ i _ => n - (intOf i).toNat)
      case atStart => exact ⟨0, by omega, rfl, Own.nil _ _ _ _, Ext.refl _⟩
      case round =>
        obtain ⟨j, hj, rfl, ho, hx⟩ := hrel
        by_cases hlt : j < n
        · obtain ⟨ad, rfl, hcl⟩ := (H.out.ext (HS0.out.ext.trans hx)).2 j hlt
          have cc := el_0 (hcl 0 (by decide))
          clear hcl
          have hln : Hid (((colL f 0 j).length + 1) * 8 ≤ 140737488355328) := by show _ ≤ _; rw [colL_len]; omega
          go_wp2_with (at_builtin; refine app_one (w0 := wa0) 8 Try.underlying66 vinfo_F (by decide) _ _ rfl rfl rfl ho hx hln.out ?_; intro v1 w1 ho1 hx1)
          go_roundw
          case rel => exact ⟨j + 1, by omega, by go_num, ho1, hx1⟩
          case measure => simp [intOf]; omega
        · obtain rfl : n = j := by omega
          obtain ⟨wi0, rfl⟩ : ∃ wi : World, wi = wr := ⟨_, rfl⟩
          obtain ⟨A0, c0, rfl, hr0, _⟩ := ho.read
          have hr0 := Lib.hid hr0
          rw [colL_len]
          have ht0 := HS0.out.next hx
          obtain ⟨⟨b0, b1⟩, ⟨b2, b3⟩, b4, b5⟩ := ht0.out.three
          clear ho hx
          have hra := radd_any A0 c0 (colL f 0 n) wi0 hr0.out; rw [colL_len] at hra; have hra := Lib.hid hra
          go_wp2_with (go_at_call 83; (with_reducible refine (hra.out).mono ?_); rintro e y0 ⟨rfl, rfl⟩; rw [G0.out])
          have HS1 := Lib.hid (ht0.set0 hl1 hl2 (.int .i64 (addR (colL f 0 n))))
          clear ht0 b0 b1 b2 b3 b4 b5 hra
          generalize wi0.setCell ⟨go, 0, none⟩ (.int .i64 (addR (colL f 0 n))) = wa1 at *
          rw [rounds_succ]
          go_wp2
          go_loopw [7, 8] (fun o i wr => ∃ j : Nat, j ≤ n ∧ i = .int .i64 j ∧ Own 22 .i64 wa1.heap.size wr o (colL f 1 j) ∧ Ext wa1 wr) (fun _ i _ => n - (intOf i).toNat)
          case atStart => exact ⟨0, by omega, rfl, Own.nil _ _ _ _, Ext.refl _⟩
          case round =>
            obtain ⟨j, hj, rfl, ho, hx⟩ := hrel
            by_cases hlt : j < n
            · obtain ⟨ad, rfl, hcl⟩ := (H.out.ext (HS1.out.ext.trans hx)).2 j hlt
              have cc := el_s (hcl 1 (by decide))
              clear hcl
              have hln : Hid (((colL f 1 j).length + 1) * 8 ≤ 140737488355328) := by show _ ≤ _; rw [colL_len]; omega
              go_wp2_with (at_builtin; refine app_one (w0 := wa1) 8 Try.underlying66 vinfo_F (by decide) _ _ rfl rfl rfl ho hx hln.out ?_; intro v1 w1 ho1 hx1)
              go_roundw
              case rel => exact ⟨j + 1, by omega, by go_num, ho1, hx1⟩
              case measure => simp [intOf]; omega
            · obtain rfl : n = j := by omega
              obtain ⟨wi1, rfl⟩ : ∃ wi : World, wi = wr := ⟨_, rfl⟩
              obtain ⟨A1, c1, rfl, hr1, _⟩ := ho.read
              have hr1 := Lib.hid hr1
              rw [colL_len]
              have ht1 := HS1.out.next hx
              obtain ⟨⟨b0, b1⟩, ⟨b2, b3⟩, b4, b5⟩ := ht1.res.three
              clear ho hx
              have hra := radd_any A1 c1 (colL f 1 n) wi1 hr1.out; rw [colL_len] at hra; have hra := Lib.hid hra
              go_wp2_with (go_at_call 83; (with_reducible refine (hra.out).mono ?_); rintro e y1 ⟨rfl, rfl⟩)
              have HZ := Lib.hid (show Lies _ w.heap.size #[.int .i64 0, .int .i64 0, .int .i64 0] 24 from (((ht1.res).set 0 (.int .i64 0)).set 1 (.int .i64 0)).set 2 (.int .i64 0))
              have HXZ := Lib.hid (show Ext _ (((wi1.setCell ⟨w.heap.size, 0, none⟩ (.int .i64 0)).setCell ⟨w.heap.size, 1, none⟩ (.int .i64 0)).setCell ⟨w.heap.size, 2, none⟩ (.int .i64 0)) from ((ht1.ext.set hl0 _).set hl0 _).set hl0 _)
              generalize (((wi1.setCell ⟨w.heap.size, 0, none⟩ (.int .i64 0)).setCell ⟨w.heap.size, 1, none⟩ (.int .i64 0)).setCell ⟨w.heap.size, 2, none⟩ (.int .i64 0)) = wz at *
              obtain ⟨⟨k0, _⟩, ⟨k1, _⟩, k2, _⟩ := HZ.out.three
              refine bodyPost_ret (v := .tuple #[.agg #[.int .i64 0, .int .i64 0, .int .i64 0], .int .i64 (addE (colL f 1 n))]) (by simp [results, Try.results19, go_sem, k0, k1, k2]) rfl ⟨?_, HXZ.out⟩
              rfl
  · rw [show e3 (addE (colL f 0 n)) (addE (colL f 1 n)) (addE (colL f 2 n)) = addE (colL f 0 n) from by simp [e3, h0]]
    have hrr : ∀ r, r3 (addE (colL f 0 n)) (addE (colL f 1 n)) (addE (colL f 2 n)) r = 0 := by intro r; simp [r3, e3, h0]
    rw [hrr, hrr, hrr]
    have hb : (addE (colL f 0 n) != 0) = true := by simpa using h0
    clear hrr
    go_enter Try.func19, Try.ntmps19
    go_wp2_with (go_at_call 23; (with_reducible refine (rvright_any _ _ _ _ _ (H.out.ext HX.out)).mono ?_); rintro e w1 ⟨rfl, hx1⟩; rw [hv])
    have hs0 : Each2 w (w1.alloc (.cells #[.int .i64 0, .int .i64 0, .int .i64 0] 24)) w.heap.size w1.heap.size (.int .i64 0) (.int .i64 0) (.int .i64 0) := ⟨(HX.out.trans hx1).alloc _, HC.out.ext (hx1.alloc _), Lies.new _ _ _ _ rfl⟩
    have HS0 := Lib.hid hs0
    have hl3 : w.heap.size < w1.heap.size := (HC.out.ext hx1).lt
    have hl1 : w.heap.size ≤ w1.heap.size := by omega
    have hl2 : w1.heap.size ≠ w.heap.size := by omega
    clear hs0 hx1 HC HX
    generalize w1.alloc (.cells #[.int .i64 0, .int .i64 0, .int .i64 0] 24) = wa0 at *
    generalize w1.heap.size = go at *
    refine wp_loop_rounds 4 ?_
    rw [rounds_succ]
    go_wp2
    go_loopw [7, 8] (fun o i wr => ∃ j : Nat, j ≤ n ∧ i = .int .i64 j ∧ Own 22 .i64 wa0.heap.size wr o (colL f 0 j) ∧ Ext wa0 wr) (fun _ i _ => n - (intOf i).toNat)
    case atStart => exact ⟨0, by omega, rfl, Own.nil _ _ _ _, Ext.refl _⟩
    case round =>
      obtain ⟨j, hj, rfl, ho, hx⟩ := hrel
      by_cases hlt : j < n
      · obtain ⟨ad, rfl, hcl⟩ := (H.out.ext (HS0.out.ext.trans hx)).2 j hlt
        have cc := el_0 (hcl 0 (by decide))
        clear hcl
        have hln : Hid (((colL f 0 j).length + 1) * 8 ≤ 140737488355328) := by show _ ≤ _; rw [colL_len]; omega
        go_wp2_with (at_builtin; refine app_one (w0 := wa0) 8 Try.underlying66 vinfo_F (by decide) _ _ rfl rfl rfl ho hx hln.out ?_; intro v1 w1 ho1 hx1)
        go_roundw
        case rel => exact ⟨j + 1, by omega, by go_num, ho1, hx1⟩
        case measure => simp [intOf]; omega
      · obtain rfl : n = j := by omega
        obtain ⟨wi0, rfl⟩ : ∃ wi : World, wi = wr := ⟨_, rfl⟩
        obtain ⟨A0, c0, rfl, hr0, _⟩ := ho.read
        have hr0 := Lib.hid hr0
        rw [colL_len]
        have ht0 := HS0.out.next hx
        obtain ⟨⟨b0, b1⟩, ⟨b2, b3⟩, b4, b5⟩ := ht0.res.three
        clear ho hx
        have hra := radd_any A0 c0 (colL f 0 n) wi0 hr0.out; rw [colL_len] at hra; have hra := Lib.hid hra
        go_wp2_with (go_at_call 83; (with_reducible refine (hra.out).mono ?_); rintro e y0 ⟨rfl, rfl⟩)
        have HZ := Lib.hid (show Lies _ w.heap.size #[.int .i64 0, .int .i64 0, .int .i64 0] 24 from (((ht0.res).set 0 (.int .i64 0)).set 1 (.int .i64 0)).set 2 (.int .i64 0))
        have HXZ := Lib.hid (show Ext _ (((wi0.setCell ⟨w.heap.size, 0, none⟩ (.int .i64 0)).setCell ⟨w.heap.size, 1, none⟩ (.int .i64 0)).setCell ⟨w.heap.size, 2, none⟩ (.int .i64 0)) from ((ht0.ext.set hl0 _).set hl0 _).set hl0 _)
        generalize (((wi0.setCell ⟨w.heap.size, 0, none⟩ (.int .i64 0)).setCell ⟨w.heap.size, 1, none⟩ (.int .i64 0)).setCell ⟨w.heap.size, 2, none⟩ (.int .i64 0)) = wz at *
        obtain ⟨⟨k0, _⟩, ⟨k1, _⟩, k2, _⟩ := HZ.out.three
        refine bodyPost_ret (v := .tuple #[.agg #[.int .i64 0, .int .i64 0, .int .i64 0], .int .i64 (addE (colL f 0 n))]) (by simp [results, Try.results19, go_sem, k0, k1, k2]) rfl ⟨?_, HXZ.out⟩
        rfl
end Go.Proofs.Ytmgckodihnmjoaa
