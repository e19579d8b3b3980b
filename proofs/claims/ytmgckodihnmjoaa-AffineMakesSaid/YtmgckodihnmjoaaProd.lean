/-
  The package affine: a row by a vector, and more; walked. Conditions: none. (Printed by tools/genprod.py.)
-/
import Derived.Test.YtmgckodihnmjoaaVec6
set_option linter.unusedVariables false
set_option linter.unusedSimpArgs false
namespace Go.Proofs.Ytmgckodihnmjoaa
open Go.RowKit

def prodE (x y z x' y' z' m : Int) : Int := if dotM x y z x' y' z' = 0 then addE [m, mulR x x', mulR y y', mulR z z'] else dotM x y z x' y' z'
def prodR (x y z x' y' z' m : Int) : Int := if dotM x y z x' y' z' = 0 then addR [m, mulR x x', mulR y y', mulR z z'] else 0
set_option maxRecDepth 20000 in
set_option maxHeartbeats 3200000 in
theorem product_any (x y z x' y' z' m : Int) (w : World) : Calls Try.prog 96 #[.agg #[.int .i64 x, .int .i64 y, .int .i64 z], .agg #[.int .i64 x', .int .i64 y', .int .i64 z'], .int .i64 m] w fun e w' => e = .returned (.tuple #[.int .i64 (prodR x y z x' y' z' m), .int .i64 (prodE x y z x' y' z' m)]) ∧ Ext w w' := by
  have hb := (Lies.new w #[.int .i64 x, .int .i64 y, .int .i64 z] 24 _ rfl).ext (w' := ((w.alloc (.cells #[.int .i64 x, .int .i64 y, .int .i64 z] 24)).alloc (.cells #[.int .i64 x', .int .i64 y', .int .i64 z'] 24))) ((Ext.refl _).alloc _)
  have hc := Lies.new (w.alloc (.cells #[.int .i64 x, .int .i64 y, .int .i64 z] 24)) #[.int .i64 x', .int .i64 y', .int .i64 z'] 24 (w.heap.size + 1) (by simp)
  have hx0 : Ext w ((w.alloc (.cells #[.int .i64 x, .int .i64 y, .int .i64 z] 24)).alloc (.cells #[.int .i64 x', .int .i64 y', .int .i64 z'] 24)) := ((Ext.refl _).alloc _).alloc _
  have hn : w.heap.size + 1 + 1 = ((w.alloc (.cells #[.int .i64 x, .int .i64 y, .int .i64 z] 24)).alloc (.cells #[.int .i64 x', .int .i64 y', .int .i64 z'] 24)).heap.size := by simp
  have HA := Lib.hid hb; have HB := Lib.hid hc; have HX := Lib.hid hx0; have HN := Lib.hid hn; clear hb hc hx0 hn
  unfold prodE prodR
  by_cases h0 : mulE x x' = 0
  · by_cases h1 : mulE y y' = 0
    · by_cases h2 : mulE z z' = 0
      · rw [if_pos (show dotM x y z x' y' z' = 0 by simp [dotM, e3, h0, h1, h2]), if_pos (show dotM x y z x' y' z' = 0 by simp [dotM, e3, h0, h1, h2])]
        have G0 := Lib.hid h0
        have G1 := Lib.hid h1
        have G2 := Lib.hid h2
        clear h0 h1 h2
        go_enter Try.func96, Try.ntmps96
        go_wp2
        generalize ((w.alloc (.cells #[.int .i64 x, .int .i64 y, .int .i64 z] 24)).alloc (.cells #[.int .i64 x', .int .i64 y', .int .i64 z'] 24)) = w1 at *
        have HO0 : Hid (Own 22 .i64 w1.heap.size (w1.alloc (.cells #[.int .i64 m] 22)) (.slice (some ⟨w.heap.size + 1 + 1, 0, none⟩) 1 1) [m]) := Own.lit1 _ _ _ _ (Nat.le_refl _) _ HN.out _
        have HY0 : Hid (Ext w1 (w1.alloc (.cells #[.int .i64 m] 22))) := (Ext.refl w1).alloc _
        have HA1 := Lib.hid (HA.out.ext HY0.out); have HB1 := Lib.hid (HB.out.ext HY0.out)
        refine wp_loop_rounds 4 ?_
        rw [rounds_succ]
        obtain ⟨⟨p0, _⟩, ⟨p1, _⟩, p2, _⟩ := HA1.out.three
        obtain ⟨⟨q0, _⟩, ⟨q1, _⟩, q2, _⟩ := HB1.out.three
        go_wp2
        go_region_held3 (fun w' => w'.cell? ⟨w.heap.size, 0, none⟩ = some (.int .i64 x) ∧ w'.cell? ⟨w.heap.size + 1, 0, none⟩ = some (.int .i64 x')) (first | go_keep | (exact ⟨hx2.cell (by simpa using p0), hx2.cell (by simpa using q0)⟩))
          ((go_at_call 82; (refine (mul_any _ _ _).mono ?_); rintro e v0 ⟨rfl, hx2⟩))
        have hz0 : Ext (w1.alloc (.cells #[.int .i64 m] 22)) v0 := ((Ext.refl _).drew).trans hx2
        clear p0 p1 p2 q0 q1 q2 hx2 HA1 HB1
        rw [G0.out]
        go_wp2_with (at_builtin; refine app_one (w0 := w1) 8 Try.underlying66 vinfo_F (by decide) _ ([m] : List Int) rfl rfl rfl (HO0.out.ext hz0) (HY0.out.trans hz0) (by simp) ?_; intro u0 y0 ho0 hy0)
        have HO1 : Hid (Own 22 .i64 w1.heap.size y0 u0 [m, mulR x x']) := ho0; have HY1 := Lib.hid hy0; have HA1 := Lib.hid (HA.out.ext hy0); have HB1 := Lib.hid (HB.out.ext hy0)
        clear ho0 hy0 hz0
        rw [rounds_succ]
        obtain ⟨⟨p0, _⟩, ⟨p1, _⟩, p2, _⟩ := HA1.out.three
        obtain ⟨⟨q0, _⟩, ⟨q1, _⟩, q2, _⟩ := HB1.out.three
        go_wp2
        go_region_held3 (fun w' => w'.cell? ⟨w.heap.size, 1, none⟩ = some (.int .i64 y) ∧ w'.cell? ⟨w.heap.size + 1, 1, none⟩ = some (.int .i64 y')) (first | go_keep | (exact ⟨hx3.cell (by simpa using p1), hx3.cell (by simpa using q1)⟩))
          ((go_at_call 82; (refine (mul_any _ _ _).mono ?_); rintro e v1 ⟨rfl, hx3⟩))
        have hz1 : Ext y0 v1 := ((Ext.refl _).drew).trans hx3
        clear p0 p1 p2 q0 q1 q2 hx3 HA1 HB1
        rw [G1.out]
        go_wp2_with (at_builtin; refine app_one (w0 := w1) 8 Try.underlying66 vinfo_F (by decide) _ ([m, mulR x x'] : List Int) rfl rfl rfl (HO1.out.ext hz1) (HY1.out.trans hz1) (by simp) ?_; intro u1 y1 ho1 hy1)
        have HO2 : Hid (Own 22 .i64 w1.heap.size y1 u1 [m, mulR x x', mulR y y']) := ho1; have HY2 := Lib.hid hy1; have HA1 := Lib.hid (HA.out.ext hy1); have HB1 := Lib.hid (HB.out.ext hy1)
        clear ho1 hy1 hz1
        rw [rounds_succ]
        obtain ⟨⟨p0, _⟩, ⟨p1, _⟩, p2, _⟩ := HA1.out.three
        obtain ⟨⟨q0, _⟩, ⟨q1, _⟩, q2, _⟩ := HB1.out.three
        go_wp2
        go_region_held3 (fun w' => w'.cell? ⟨w.heap.size, 2, none⟩ = some (.int .i64 z) ∧ w'.cell? ⟨w.heap.size + 1, 2, none⟩ = some (.int .i64 z')) (first | go_keep | (exact ⟨hx4.cell (by simpa using p2), hx4.cell (by simpa using q2)⟩))
          ((go_at_call 82; (refine (mul_any _ _ _).mono ?_); rintro e v2 ⟨rfl, hx4⟩))
        have hz2 : Ext y1 v2 := ((Ext.refl _).drew).trans hx4
        clear p0 p1 p2 q0 q1 q2 hx4 HA1 HB1
        rw [G2.out]
        go_wp2_with (at_builtin; refine app_one (w0 := w1) 8 Try.underlying66 vinfo_F (by decide) _ ([m, mulR x x', mulR y y'] : List Int) rfl rfl rfl (HO2.out.ext hz2) (HY2.out.trans hz2) (by simp) ?_; intro u2 y2 ho2 hy2)
        have HO3 : Hid (Own 22 .i64 w1.heap.size y2 u2 [m, mulR x x', mulR y y', mulR z z']) := ho2; have HY3 := Lib.hid hy2; have HA1 := Lib.hid (HA.out.ext hy2); have HB1 := Lib.hid (HB.out.ext hy2)
        clear ho2 hy2 hz2
        rw [rounds_succ]
        obtain ⟨A3, c3, rfl, hr3, _⟩ := HO3.out.read
        have hr3 := Lib.hid hr3
        go_wp2_with (go_at_call 79; (refine (add_any A3 c3 [m, mulR x x', mulR y y', mulR z z'] _ hr3.out).mono ?_); rintro e w9 ⟨rfl, rfl⟩)
        go_ret2
        exact ⟨rfl, HX.out.trans HY3.out⟩
      · have hd : dotM x y z x' y' z' = mulE z z' := by simp [dotM, e3, h0, h1, h2]
        rw [hd, if_neg h2, if_neg h2]
        have hb : (mulE z z' != 0) = true := by simpa using h2
        clear hd
        have G0 := Lib.hid h0
        have G1 := Lib.hid h1
        clear h0 h1
        go_enter Try.func96, Try.ntmps96
        go_wp2
        generalize ((w.alloc (.cells #[.int .i64 x, .int .i64 y, .int .i64 z] 24)).alloc (.cells #[.int .i64 x', .int .i64 y', .int .i64 z'] 24)) = w1 at *
        have HO0 : Hid (Own 22 .i64 w1.heap.size (w1.alloc (.cells #[.int .i64 m] 22)) (.slice (some ⟨w.heap.size + 1 + 1, 0, none⟩) 1 1) [m]) := Own.lit1 _ _ _ _ (Nat.le_refl _) _ HN.out _
        have HY0 : Hid (Ext w1 (w1.alloc (.cells #[.int .i64 m] 22))) := (Ext.refl w1).alloc _
        have HA1 := Lib.hid (HA.out.ext HY0.out); have HB1 := Lib.hid (HB.out.ext HY0.out)
        refine wp_loop_rounds 4 ?_
        rw [rounds_succ]
        obtain ⟨⟨p0, _⟩, ⟨p1, _⟩, p2, _⟩ := HA1.out.three
        obtain ⟨⟨q0, _⟩, ⟨q1, _⟩, q2, _⟩ := HB1.out.three
        go_wp2
        go_region_held3 (fun w' => w'.cell? ⟨w.heap.size, 0, none⟩ = some (.int .i64 x) ∧ w'.cell? ⟨w.heap.size + 1, 0, none⟩ = some (.int .i64 x')) (first | go_keep | (exact ⟨hx2.cell (by simpa using p0), hx2.cell (by simpa using q0)⟩))
          ((go_at_call 82; (refine (mul_any _ _ _).mono ?_); rintro e v0 ⟨rfl, hx2⟩))
        have hz0 : Ext (w1.alloc (.cells #[.int .i64 m] 22)) v0 := ((Ext.refl _).drew).trans hx2
        clear p0 p1 p2 q0 q1 q2 hx2 HA1 HB1
        rw [G0.out]
        go_wp2_with (at_builtin; refine app_one (w0 := w1) 8 Try.underlying66 vinfo_F (by decide) _ ([m] : List Int) rfl rfl rfl (HO0.out.ext hz0) (HY0.out.trans hz0) (by simp) ?_; intro u0 y0 ho0 hy0)
        have HO1 : Hid (Own 22 .i64 w1.heap.size y0 u0 [m, mulR x x']) := ho0; have HY1 := Lib.hid hy0; have HA1 := Lib.hid (HA.out.ext hy0); have HB1 := Lib.hid (HB.out.ext hy0)
        clear ho0 hy0 hz0
        rw [rounds_succ]
        obtain ⟨⟨p0, _⟩, ⟨p1, _⟩, p2, _⟩ := HA1.out.three
        obtain ⟨⟨q0, _⟩, ⟨q1, _⟩, q2, _⟩ := HB1.out.three
        go_wp2
        go_region_held3 (fun w' => w'.cell? ⟨w.heap.size, 1, none⟩ = some (.int .i64 y) ∧ w'.cell? ⟨w.heap.size + 1, 1, none⟩ = some (.int .i64 y')) (first | go_keep | (exact ⟨hx3.cell (by simpa using p1), hx3.cell (by simpa using q1)⟩))
          ((go_at_call 82; (refine (mul_any _ _ _).mono ?_); rintro e v1 ⟨rfl, hx3⟩))
        have hz1 : Ext y0 v1 := ((Ext.refl _).drew).trans hx3
        clear p0 p1 p2 q0 q1 q2 hx3 HA1 HB1
        rw [G1.out]
        go_wp2_with (at_builtin; refine app_one (w0 := w1) 8 Try.underlying66 vinfo_F (by decide) _ ([m, mulR x x'] : List Int) rfl rfl rfl (HO1.out.ext hz1) (HY1.out.trans hz1) (by simp) ?_; intro u1 y1 ho1 hy1)
        have HO2 : Hid (Own 22 .i64 w1.heap.size y1 u1 [m, mulR x x', mulR y y']) := ho1; have HY2 := Lib.hid hy1; have HA1 := Lib.hid (HA.out.ext hy1); have HB1 := Lib.hid (HB.out.ext hy1)
        clear ho1 hy1 hz1
        rw [rounds_succ]
        obtain ⟨⟨p0, _⟩, ⟨p1, _⟩, p2, _⟩ := HA1.out.three
        obtain ⟨⟨q0, _⟩, ⟨q1, _⟩, q2, _⟩ := HB1.out.three
        go_wp2
        go_region_held3 (fun w' => w'.cell? ⟨w.heap.size, 2, none⟩ = some (.int .i64 z) ∧ w'.cell? ⟨w.heap.size + 1, 2, none⟩ = some (.int .i64 z')) (first | go_keep | (exact ⟨hx4.cell (by simpa using p2), hx4.cell (by simpa using q2)⟩))
          ((go_at_call 82; (refine (mul_any _ _ _).mono ?_); rintro e v2 ⟨rfl, hx4⟩))
        have hz2 : Ext y1 v2 := ((Ext.refl _).drew).trans hx4
        clear p0 p1 p2 q0 q1 q2 hx4 HA1 HB1
        go_wp2
        go_ret2
        exact ⟨rfl, HX.out.trans (HY2.out.trans hz2)⟩
    · have hd : dotM x y z x' y' z' = mulE y y' := by simp [dotM, e3, h0, h1]
      rw [hd, if_neg h1, if_neg h1]
      have hb : (mulE y y' != 0) = true := by simpa using h1
      clear hd
      have G0 := Lib.hid h0
      clear h0
      go_enter Try.func96, Try.ntmps96
      go_wp2
      generalize ((w.alloc (.cells #[.int .i64 x, .int .i64 y, .int .i64 z] 24)).alloc (.cells #[.int .i64 x', .int .i64 y', .int .i64 z'] 24)) = w1 at *
      have HO0 : Hid (Own 22 .i64 w1.heap.size (w1.alloc (.cells #[.int .i64 m] 22)) (.slice (some ⟨w.heap.size + 1 + 1, 0, none⟩) 1 1) [m]) := Own.lit1 _ _ _ _ (Nat.le_refl _) _ HN.out _
      have HY0 : Hid (Ext w1 (w1.alloc (.cells #[.int .i64 m] 22))) := (Ext.refl w1).alloc _
      have HA1 := Lib.hid (HA.out.ext HY0.out); have HB1 := Lib.hid (HB.out.ext HY0.out)
      refine wp_loop_rounds 4 ?_
      rw [rounds_succ]
      obtain ⟨⟨p0, _⟩, ⟨p1, _⟩, p2, _⟩ := HA1.out.three
      obtain ⟨⟨q0, _⟩, ⟨q1, _⟩, q2, _⟩ := HB1.out.three
      go_wp2
      go_region_held3 (fun w' => w'.cell? ⟨w.heap.size, 0, none⟩ = some (.int .i64 x) ∧ w'.cell? ⟨w.heap.size + 1, 0, none⟩ = some (.int .i64 x')) (first | go_keep | (exact ⟨hx2.cell (by simpa using p0), hx2.cell (by simpa using q0)⟩))
        ((go_at_call 82; (refine (mul_any _ _ _).mono ?_); rintro e v0 ⟨rfl, hx2⟩))
      have hz0 : Ext (w1.alloc (.cells #[.int .i64 m] 22)) v0 := ((Ext.refl _).drew).trans hx2
      clear p0 p1 p2 q0 q1 q2 hx2 HA1 HB1
      rw [G0.out]
      go_wp2_with (at_builtin; refine app_one (w0 := w1) 8 Try.underlying66 vinfo_F (by decide) _ ([m] : List Int) rfl rfl rfl (HO0.out.ext hz0) (HY0.out.trans hz0) (by simp) ?_; intro u0 y0 ho0 hy0)
      have HO1 : Hid (Own 22 .i64 w1.heap.size y0 u0 [m, mulR x x']) := ho0; have HY1 := Lib.hid hy0; have HA1 := Lib.hid (HA.out.ext hy0); have HB1 := Lib.hid (HB.out.ext hy0)
      clear ho0 hy0 hz0
      rw [rounds_succ]
      obtain ⟨⟨p0, _⟩, ⟨p1, _⟩, p2, _⟩ := HA1.out.three
      obtain ⟨⟨q0, _⟩, ⟨q1, _⟩, q2, _⟩ := HB1.out.three
      go_wp2
      go_region_held3 (fun w' => w'.cell? ⟨w.heap.size, 1, none⟩ = some (.int .i64 y) ∧ w'.cell? ⟨w.heap.size + 1, 1, none⟩ = some (.int .i64 y')) (first | go_keep | (exact ⟨hx3.cell (by simpa using p1), hx3.cell (by simpa using q1)⟩))
        ((go_at_call 82; (refine (mul_any _ _ _).mono ?_); rintro e v1 ⟨rfl, hx3⟩))
      have hz1 : Ext y0 v1 := ((Ext.refl _).drew).trans hx3
      clear p0 p1 p2 q0 q1 q2 hx3 HA1 HB1
      go_wp2
      go_ret2
      exact ⟨rfl, HX.out.trans (HY1.out.trans hz1)⟩
  · have hd : dotM x y z x' y' z' = mulE x x' := by simp [dotM, e3, h0]
    rw [hd, if_neg h0, if_neg h0]
    have hb : (mulE x x' != 0) = true := by simpa using h0
    clear hd
    go_enter Try.func96, Try.ntmps96
    go_wp2
    generalize ((w.alloc (.cells #[.int .i64 x, .int .i64 y, .int .i64 z] 24)).alloc (.cells #[.int .i64 x', .int .i64 y', .int .i64 z'] 24)) = w1 at *
    have HO0 : Hid (Own 22 .i64 w1.heap.size (w1.alloc (.cells #[.int .i64 m] 22)) (.slice (some ⟨w.heap.size + 1 + 1, 0, none⟩) 1 1) [m]) := Own.lit1 _ _ _ _ (Nat.le_refl _) _ HN.out _
    have HY0 : Hid (Ext w1 (w1.alloc (.cells #[.int .i64 m] 22))) := (Ext.refl w1).alloc _
    have HA1 := Lib.hid (HA.out.ext HY0.out); have HB1 := Lib.hid (HB.out.ext HY0.out)
    refine wp_loop_rounds 4 ?_
    rw [rounds_succ]
    obtain ⟨⟨p0, _⟩, ⟨p1, _⟩, p2, _⟩ := HA1.out.three
    obtain ⟨⟨q0, _⟩, ⟨q1, _⟩, q2, _⟩ := HB1.out.three
    go_wp2
    go_region_held3 (fun w' => w'.cell? ⟨w.heap.size, 0, none⟩ = some (.int .i64 x) ∧ w'.cell? ⟨w.heap.size + 1, 0, none⟩ = some (.int .i64 x')) (first | go_keep | (exact ⟨hx2.cell (by simpa using p0), hx2.cell (by simpa using q0)⟩))
      ((go_at_call 82; (refine (mul_any _ _ _).mono ?_); rintro e v0 ⟨rfl, hx2⟩))
    have hz0 : Ext (w1.alloc (.cells #[.int .i64 m] 22)) v0 := ((Ext.refl _).drew).trans hx2
    clear p0 p1 p2 q0 q1 q2 hx2 HA1 HB1
    go_wp2
    go_ret2
    exact ⟨rfl, HX.out.trans (HY0.out.trans hz0)⟩
end Go.Proofs.Ytmgckodihnmjoaa
