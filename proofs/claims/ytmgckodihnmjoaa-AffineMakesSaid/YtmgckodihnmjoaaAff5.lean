/-
  The package affine: the product of any matrices; walked. Conditions: the slice lies in memory.
-/
import Derived.Test.YtmgckodihnmjoaaAff4
set_option linter.unusedVariables false
set_option linter.unusedSimpArgs false
namespace Go.Proofs.Ytmgckodihnmjoaa
open Go.RowKit

def foldR (f : Nat → Nat → Int) : Nat → Nat → Int
  | 0 => f 0
  | k + 1 => twoR (foldR f k) (f (k + 1))
def foldE (f : Nat → Nat → Int) : Nat → Int
  | 0 => 0
  | k + 1 => if foldE f k = 0 then twoE (foldR f k) (f (k + 1)) else foldE f k
def mulME (f : Nat → Nat → Int) (n : Nat) : Int := if matsB f n then (if n = 0 then 0 else foldE f (n - 1)) else 1
def mulMR (f : Nat → Nat → Int) (n j : Nat) : Int := if matsB f n then (if n = 0 then diagV 65536 65536 65536 j else if foldE f (n - 1) = 0 then foldR f (n - 1) j else 0) else 0
theorem foldE_stay (f : Nat → Nat → Int) (k d : Nat) (h : ¬ foldE f k = 0) : foldE f (k + d) = foldE f k := by
  induction d with
  | zero => rfl
  | succ d ih =>
    have e : foldE f (k + d + 1) = if foldE f (k + d) = 0 then twoE (foldR f (k + d)) (f (k + d + 1)) else foldE f (k + d) := rfl
    show foldE f (k + d + 1) = _
    rw [e, ih, if_neg h]
theorem el0_0 {w : World} {ad : Addr} {m : Nat} {v : Value} (h : w.cell? (ad.add (0 * m + 0)) = some v) : w.cell? ad = some v := by
  rw [Nat.zero_mul] at h; exact h
theorem el0_s {w : World} {ad : Addr} {m j : Nat} {v : Value} (h : w.cell? (ad.add (0 * m + (j + 1))) = some v) : w.cell? ⟨ad.block, ad.off + (j + 1), none⟩ = some v := by
  rw [Nat.zero_mul] at h; exact el_s h
theorem off_add (b o n : Nat) : (⟨b, o, none⟩ : Addr).add n = ⟨b, o + n, none⟩ := by
  unfold Addr.add
  by_cases h : n = 0
  · subst h; rfl
  · simp [h]
theorem RdM.tail {w : World} {ad : Addr} {n m : Nat} {f : Nat → Nat → Int} (h : RdM (m + 1) w (some ad) n f) : RdM (m + 1) w (some ⟨ad.block, ad.off + (m + 1), none⟩) (n - 1) (fun i => f (i + 1)) :=
  ⟨by have := h.1; omega, fun i hi => by
    refine ⟨_, rfl, fun j hj => ?_⟩
    obtain ⟨a, e, hc⟩ := h.2 (i + 1) (by omega)
    cases e
    have := hc j hj
    have e : ad.add ((i + 1) * (m + 1) + j) = (⟨ad.block, ad.off + (m + 1), none⟩ : Addr).add (i * (m + 1) + j) := by
      rw [show (i + 1) * (m + 1) + j = (i * (m + 1) + j + m) + 1 by rw [Nat.add_mul]; omega]
      unfold Addr.add
      by_cases h0 : i * (m + 1) + j = 0
      · simp [h0]
      · simp only [if_neg h0, Nat.succ_ne_zero, if_false, Nat.add_one_ne_zero]
        congr 1
        omega
    rw [← e]; exact this⟩
/-- The state of a product of many: the result's cell, and what has been made so far. -/
structure MSt (w w' : World) (gr go : Nat) (v : Nat → Int) : Prop where
  ext : Ext w w'
  res : RowZ w' gr 49 12 zeroM
  row : RowZ w' go 49 12 v
theorem MSt.next {w w' w2 : World} {gr go : Nat} {v : Nat → Int} (h : MSt w w' gr go v) (hx : Ext w' w2) : MSt w w2 gr go v :=
  ⟨h.ext.trans hx, h.res.ext hx, h.row.ext hx⟩
theorem MSt.all12 {w w' : World} {gr go : Nat} {v : Nat → Int} (h : MSt w w' gr go v) (h0 : w.heap.size ≤ go) (h1 : go ≠ gr) (u : Nat → Int) : MSt w ((((((((((((w'.setCell ⟨go, 0, none⟩ (.int .i64 (u 0))).setCell ⟨go, 1, none⟩ (.int .i64 (u 1))).setCell ⟨go, 2, none⟩ (.int .i64 (u 2))).setCell ⟨go, 3, none⟩ (.int .i64 (u 3))).setCell ⟨go, 4, none⟩ (.int .i64 (u 4))).setCell ⟨go, 5, none⟩ (.int .i64 (u 5))).setCell ⟨go, 6, none⟩ (.int .i64 (u 6))).setCell ⟨go, 7, none⟩ (.int .i64 (u 7))).setCell ⟨go, 8, none⟩ (.int .i64 (u 8))).setCell ⟨go, 9, none⟩ (.int .i64 (u 9))).setCell ⟨go, 10, none⟩ (.int .i64 (u 10))).setCell ⟨go, 11, none⟩ (.int .i64 (u 11))) gr go u :=
  ⟨ext12 h.ext h0 _ _ _ _ _ _ _ _ _ _ _ _, ((((((((((((h.res.other h1 0 _).other h1 1 _).other h1 2 _).other h1 3 _).other h1 4 _).other h1 5 _).other h1 6 _).other h1 7 _).other h1 8 _).other h1 9 _).other h1 10 _).other h1 11 _), h.row.all12 u⟩
set_option maxRecDepth 20000 in
set_option maxHeartbeats 8000000 in
theorem mmul_any (A : Option Addr) (c n : Nat) (f : Nat → Nat → Int) (w : World) (h : RdM 12 w A n f) (hc : n ≤ c) : Calls Try.prog 32 #[.slice A n c] w (RetM w (mulME f n) (mulMR f n)) := by
  have hl0 : w.heap.size ≤ w.heap.size := by omega
  have hlen := h.1
  have H := Lib.hid h; clear h
  have hres : Hid (RowZ (w.alloc (.cells #[.int .i64 0, .int .i64 0, .int .i64 0, .int .i64 0, .int .i64 0, .int .i64 0, .int .i64 0, .int .i64 0, .int .i64 0, .int .i64 0, .int .i64 0, .int .i64 0] 49)) w.heap.size 49 12 zeroM) := row12 (Lies.new w #[.int .i64 (zeroM 0), .int .i64 (zeroM 1), .int .i64 (zeroM 2), .int .i64 (zeroM 3), .int .i64 (zeroM 4), .int .i64 (zeroM 5), .int .i64 (zeroM 6), .int .i64 (zeroM 7), .int .i64 (zeroM 8), .int .i64 (zeroM 9), .int .i64 (zeroM 10), .int .i64 (zeroM 11)] 49 _ rfl)
  have H1 := Lib.hid (show RdM 12 (w.alloc (.cells #[.int .i64 0, .int .i64 0, .int .i64 0, .int .i64 0, .int .i64 0, .int .i64 0, .int .i64 0, .int .i64 0, .int .i64 0, .int .i64 0, .int .i64 0, .int .i64 0] 49)) A n f from H.out.ext ((Ext.refl _).alloc _))
  have HX1 := Lib.hid (show Ext w (w.alloc (.cells #[.int .i64 0, .int .i64 0, .int .i64 0, .int .i64 0, .int .i64 0, .int .i64 0, .int .i64 0, .int .i64 0, .int .i64 0, .int .i64 0, .int .i64 0, .int .i64 0] 49)) from (Ext.refl _).alloc _)
  cases hv : matsB f n
  · have hE : Hid (mulME f n = 1) := by show _ = _; simp [mulME, hv]
    have hR : Hid (∀ j, mulMR f n j = 0) := by show ∀ _, _; intro j; simp [mulMR, hv]
    go_enter Try.func32, Try.ntmps32
    go_wp2_with (go_at_call 36; (with_reducible refine (mright_any _ _ _ f _ H1.out).mono ?_); rintro e w1 ⟨rfl, hx1⟩; rw [hv]; have hk_ := fun i v hv => ((hres.out.ext hx1).lies).at_ i v hv; obtain ⟨g0, gf0⟩ := hk_ 0 _ rfl; obtain ⟨g1, gf1⟩ := hk_ 1 _ rfl; obtain ⟨g2, gf2⟩ := hk_ 2 _ rfl; obtain ⟨g3, gf3⟩ := hk_ 3 _ rfl; obtain ⟨g4, gf4⟩ := hk_ 4 _ rfl; obtain ⟨g5, gf5⟩ := hk_ 5 _ rfl; obtain ⟨g6, gf6⟩ := hk_ 6 _ rfl; obtain ⟨g7, gf7⟩ := hk_ 7 _ rfl; obtain ⟨g8, gf8⟩ := hk_ 8 _ rfl; obtain ⟨g9, gf9⟩ := hk_ 9 _ rfl; obtain ⟨g10, gf10⟩ := hk_ 10 _ rfl; obtain ⟨g11, gf11⟩ := hk_ 11 _ rfl; clear hk_)
    clear g0 g1 g2 g3 g4 g5 g6 g7 g8 g9 g10 g11 gf0 gf1 gf2 gf3 gf4 gf5 gf6 gf7 gf8 gf9 gf10 gf11
    have HZ := Lib.hid (show RowZ ((((((((((((w1.setCell ⟨w.heap.size, 0, none⟩ (.int .i64 0)).setCell ⟨w.heap.size, 1, none⟩ (.int .i64 0)).setCell ⟨w.heap.size, 2, none⟩ (.int .i64 0)).setCell ⟨w.heap.size, 3, none⟩ (.int .i64 0)).setCell ⟨w.heap.size, 4, none⟩ (.int .i64 0)).setCell ⟨w.heap.size, 5, none⟩ (.int .i64 0)).setCell ⟨w.heap.size, 6, none⟩ (.int .i64 0)).setCell ⟨w.heap.size, 7, none⟩ (.int .i64 0)).setCell ⟨w.heap.size, 8, none⟩ (.int .i64 0)).setCell ⟨w.heap.size, 9, none⟩ (.int .i64 0)).setCell ⟨w.heap.size, 10, none⟩ (.int .i64 0)).setCell ⟨w.heap.size, 11, none⟩ (.int .i64 0)) w.heap.size 49 12 zeroM from RowZ.all12 (hres.out.ext hx1) zeroM)
    have HXZ := Lib.hid (show Ext _ ((((((((((((w1.setCell ⟨w.heap.size, 0, none⟩ (.int .i64 0)).setCell ⟨w.heap.size, 1, none⟩ (.int .i64 0)).setCell ⟨w.heap.size, 2, none⟩ (.int .i64 0)).setCell ⟨w.heap.size, 3, none⟩ (.int .i64 0)).setCell ⟨w.heap.size, 4, none⟩ (.int .i64 0)).setCell ⟨w.heap.size, 5, none⟩ (.int .i64 0)).setCell ⟨w.heap.size, 6, none⟩ (.int .i64 0)).setCell ⟨w.heap.size, 7, none⟩ (.int .i64 0)).setCell ⟨w.heap.size, 8, none⟩ (.int .i64 0)).setCell ⟨w.heap.size, 9, none⟩ (.int .i64 0)).setCell ⟨w.heap.size, 10, none⟩ (.int .i64 0)).setCell ⟨w.heap.size, 11, none⟩ (.int .i64 0)) from ext12 (HX1.out.trans hx1) hl0 _ _ _ _ _ _ _ _ _ _ _ _)
    generalize ((((((((((((w1.setCell ⟨w.heap.size, 0, none⟩ (.int .i64 0)).setCell ⟨w.heap.size, 1, none⟩ (.int .i64 0)).setCell ⟨w.heap.size, 2, none⟩ (.int .i64 0)).setCell ⟨w.heap.size, 3, none⟩ (.int .i64 0)).setCell ⟨w.heap.size, 4, none⟩ (.int .i64 0)).setCell ⟨w.heap.size, 5, none⟩ (.int .i64 0)).setCell ⟨w.heap.size, 6, none⟩ (.int .i64 0)).setCell ⟨w.heap.size, 7, none⟩ (.int .i64 0)).setCell ⟨w.heap.size, 8, none⟩ (.int .i64 0)).setCell ⟨w.heap.size, 9, none⟩ (.int .i64 0)).setCell ⟨w.heap.size, 10, none⟩ (.int .i64 0)).setCell ⟨w.heap.size, 11, none⟩ (.int .i64 0)) = wz at *
    have k0 : wz.cell? ⟨w.heap.size, 0, none⟩ = some (.int .i64 0) := (HZ.out.at_ 0 (by decide)).1
    have k1 : wz.cell? ⟨w.heap.size, 1, none⟩ = some (.int .i64 0) := (HZ.out.at_ 1 (by decide)).1
    have k2 : wz.cell? ⟨w.heap.size, 2, none⟩ = some (.int .i64 0) := (HZ.out.at_ 2 (by decide)).1
    have k3 : wz.cell? ⟨w.heap.size, 3, none⟩ = some (.int .i64 0) := (HZ.out.at_ 3 (by decide)).1
    have k4 : wz.cell? ⟨w.heap.size, 4, none⟩ = some (.int .i64 0) := (HZ.out.at_ 4 (by decide)).1
    have k5 : wz.cell? ⟨w.heap.size, 5, none⟩ = some (.int .i64 0) := (HZ.out.at_ 5 (by decide)).1
    have k6 : wz.cell? ⟨w.heap.size, 6, none⟩ = some (.int .i64 0) := (HZ.out.at_ 6 (by decide)).1
    have k7 : wz.cell? ⟨w.heap.size, 7, none⟩ = some (.int .i64 0) := (HZ.out.at_ 7 (by decide)).1
    have k8 : wz.cell? ⟨w.heap.size, 8, none⟩ = some (.int .i64 0) := (HZ.out.at_ 8 (by decide)).1
    have k9 : wz.cell? ⟨w.heap.size, 9, none⟩ = some (.int .i64 0) := (HZ.out.at_ 9 (by decide)).1
    have k10 : wz.cell? ⟨w.heap.size, 10, none⟩ = some (.int .i64 0) := (HZ.out.at_ 10 (by decide)).1
    have k11 : wz.cell? ⟨w.heap.size, 11, none⟩ = some (.int .i64 0) := (HZ.out.at_ 11 (by decide)).1
    refine bodyPost_ret (v := .tuple #[.agg #[.int .i64 0, .int .i64 0, .int .i64 0, .int .i64 0, .int .i64 0, .int .i64 0, .int .i64 0, .int .i64 0, .int .i64 0, .int .i64 0, .int .i64 0, .int .i64 0], .int .i64 1]) (by simp [results, Try.results32, go_sem, k0, k1, k2, k3, k4, k5, k6, k7, k8, k9, k10, k11]) rfl ⟨?_, HXZ.out⟩
    (simp only [hE.out, hR.out])
  · obtain rfl | hn : n = 0 ∨ 1 ≤ n := by omega
    · have hE : Hid (mulME f 0 = 0) := by show _ = _; simp [mulME, hv]
      have hR : Hid (∀ j, mulMR f 0 j = diagV 65536 65536 65536 j) := by show ∀ _, _; intro j; simp [mulMR, hv]
      go_enter Try.func32, Try.ntmps32
      go_wp2_with (first
        | (go_at_call 36; (with_reducible refine (mright_any _ _ _ f _ H1.out).mono ?_); rintro e w1 ⟨rfl, hx1⟩; rw [hv])
        | (go_at_call 38; (with_reducible refine (msame_any _).mono ?_); rintro e w2 ⟨rfl, hx2⟩; have hk_ := fun i v hv => (((hres.out.ext hx1).ext hx2).lies).at_ i v hv; obtain ⟨g0, gf0⟩ := hk_ 0 _ rfl; obtain ⟨g1, gf1⟩ := hk_ 1 _ rfl; obtain ⟨g2, gf2⟩ := hk_ 2 _ rfl; obtain ⟨g3, gf3⟩ := hk_ 3 _ rfl; obtain ⟨g4, gf4⟩ := hk_ 4 _ rfl; obtain ⟨g5, gf5⟩ := hk_ 5 _ rfl; obtain ⟨g6, gf6⟩ := hk_ 6 _ rfl; obtain ⟨g7, gf7⟩ := hk_ 7 _ rfl; obtain ⟨g8, gf8⟩ := hk_ 8 _ rfl; obtain ⟨g9, gf9⟩ := hk_ 9 _ rfl; obtain ⟨g10, gf10⟩ := hk_ 10 _ rfl; obtain ⟨g11, gf11⟩ := hk_ 11 _ rfl; clear hk_))
      clear g0 g1 g2 g3 g4 g5 g6 g7 g8 g9 g10 g11 gf0 gf1 gf2 gf3 gf4 gf5 gf6 gf7 gf8 gf9 gf10 gf11
      have HZ := Lib.hid (show RowZ ((((((((((((w2.setCell ⟨w.heap.size, 0, none⟩ (.int .i64 ((diagV 65536 65536 65536) 0))).setCell ⟨w.heap.size, 1, none⟩ (.int .i64 ((diagV 65536 65536 65536) 1))).setCell ⟨w.heap.size, 2, none⟩ (.int .i64 ((diagV 65536 65536 65536) 2))).setCell ⟨w.heap.size, 3, none⟩ (.int .i64 ((diagV 65536 65536 65536) 3))).setCell ⟨w.heap.size, 4, none⟩ (.int .i64 ((diagV 65536 65536 65536) 4))).setCell ⟨w.heap.size, 5, none⟩ (.int .i64 ((diagV 65536 65536 65536) 5))).setCell ⟨w.heap.size, 6, none⟩ (.int .i64 ((diagV 65536 65536 65536) 6))).setCell ⟨w.heap.size, 7, none⟩ (.int .i64 ((diagV 65536 65536 65536) 7))).setCell ⟨w.heap.size, 8, none⟩ (.int .i64 ((diagV 65536 65536 65536) 8))).setCell ⟨w.heap.size, 9, none⟩ (.int .i64 ((diagV 65536 65536 65536) 9))).setCell ⟨w.heap.size, 10, none⟩ (.int .i64 ((diagV 65536 65536 65536) 10))).setCell ⟨w.heap.size, 11, none⟩ (.int .i64 ((diagV 65536 65536 65536) 11))) w.heap.size 49 12 (diagV 65536 65536 65536) from RowZ.all12 ((hres.out.ext hx1).ext hx2) (diagV 65536 65536 65536))
      have HXZ := Lib.hid (show Ext _ ((((((((((((w2.setCell ⟨w.heap.size, 0, none⟩ (.int .i64 ((diagV 65536 65536 65536) 0))).setCell ⟨w.heap.size, 1, none⟩ (.int .i64 ((diagV 65536 65536 65536) 1))).setCell ⟨w.heap.size, 2, none⟩ (.int .i64 ((diagV 65536 65536 65536) 2))).setCell ⟨w.heap.size, 3, none⟩ (.int .i64 ((diagV 65536 65536 65536) 3))).setCell ⟨w.heap.size, 4, none⟩ (.int .i64 ((diagV 65536 65536 65536) 4))).setCell ⟨w.heap.size, 5, none⟩ (.int .i64 ((diagV 65536 65536 65536) 5))).setCell ⟨w.heap.size, 6, none⟩ (.int .i64 ((diagV 65536 65536 65536) 6))).setCell ⟨w.heap.size, 7, none⟩ (.int .i64 ((diagV 65536 65536 65536) 7))).setCell ⟨w.heap.size, 8, none⟩ (.int .i64 ((diagV 65536 65536 65536) 8))).setCell ⟨w.heap.size, 9, none⟩ (.int .i64 ((diagV 65536 65536 65536) 9))).setCell ⟨w.heap.size, 10, none⟩ (.int .i64 ((diagV 65536 65536 65536) 10))).setCell ⟨w.heap.size, 11, none⟩ (.int .i64 ((diagV 65536 65536 65536) 11))) from ext12 ((HX1.out.trans hx1).trans hx2) hl0 _ _ _ _ _ _ _ _ _ _ _ _)
      generalize ((((((((((((w2.setCell ⟨w.heap.size, 0, none⟩ (.int .i64 ((diagV 65536 65536 65536) 0))).setCell ⟨w.heap.size, 1, none⟩ (.int .i64 ((diagV 65536 65536 65536) 1))).setCell ⟨w.heap.size, 2, none⟩ (.int .i64 ((diagV 65536 65536 65536) 2))).setCell ⟨w.heap.size, 3, none⟩ (.int .i64 ((diagV 65536 65536 65536) 3))).setCell ⟨w.heap.size, 4, none⟩ (.int .i64 ((diagV 65536 65536 65536) 4))).setCell ⟨w.heap.size, 5, none⟩ (.int .i64 ((diagV 65536 65536 65536) 5))).setCell ⟨w.heap.size, 6, none⟩ (.int .i64 ((diagV 65536 65536 65536) 6))).setCell ⟨w.heap.size, 7, none⟩ (.int .i64 ((diagV 65536 65536 65536) 7))).setCell ⟨w.heap.size, 8, none⟩ (.int .i64 ((diagV 65536 65536 65536) 8))).setCell ⟨w.heap.size, 9, none⟩ (.int .i64 ((diagV 65536 65536 65536) 9))).setCell ⟨w.heap.size, 10, none⟩ (.int .i64 ((diagV 65536 65536 65536) 10))).setCell ⟨w.heap.size, 11, none⟩ (.int .i64 ((diagV 65536 65536 65536) 11))) = wz at *
      have k0 : wz.cell? ⟨w.heap.size, 0, none⟩ = some (.int .i64 ((diagV 65536 65536 65536) 0)) := (HZ.out.at_ 0 (by decide)).1
      have k1 : wz.cell? ⟨w.heap.size, 1, none⟩ = some (.int .i64 ((diagV 65536 65536 65536) 1)) := (HZ.out.at_ 1 (by decide)).1
      have k2 : wz.cell? ⟨w.heap.size, 2, none⟩ = some (.int .i64 ((diagV 65536 65536 65536) 2)) := (HZ.out.at_ 2 (by decide)).1
      have k3 : wz.cell? ⟨w.heap.size, 3, none⟩ = some (.int .i64 ((diagV 65536 65536 65536) 3)) := (HZ.out.at_ 3 (by decide)).1
      have k4 : wz.cell? ⟨w.heap.size, 4, none⟩ = some (.int .i64 ((diagV 65536 65536 65536) 4)) := (HZ.out.at_ 4 (by decide)).1
      have k5 : wz.cell? ⟨w.heap.size, 5, none⟩ = some (.int .i64 ((diagV 65536 65536 65536) 5)) := (HZ.out.at_ 5 (by decide)).1
      have k6 : wz.cell? ⟨w.heap.size, 6, none⟩ = some (.int .i64 ((diagV 65536 65536 65536) 6)) := (HZ.out.at_ 6 (by decide)).1
      have k7 : wz.cell? ⟨w.heap.size, 7, none⟩ = some (.int .i64 ((diagV 65536 65536 65536) 7)) := (HZ.out.at_ 7 (by decide)).1
      have k8 : wz.cell? ⟨w.heap.size, 8, none⟩ = some (.int .i64 ((diagV 65536 65536 65536) 8)) := (HZ.out.at_ 8 (by decide)).1
      have k9 : wz.cell? ⟨w.heap.size, 9, none⟩ = some (.int .i64 ((diagV 65536 65536 65536) 9)) := (HZ.out.at_ 9 (by decide)).1
      have k10 : wz.cell? ⟨w.heap.size, 10, none⟩ = some (.int .i64 ((diagV 65536 65536 65536) 10)) := (HZ.out.at_ 10 (by decide)).1
      have k11 : wz.cell? ⟨w.heap.size, 11, none⟩ = some (.int .i64 ((diagV 65536 65536 65536) 11)) := (HZ.out.at_ 11 (by decide)).1
      refine bodyPost_ret (v := .tuple #[.agg #[.int .i64 ((diagV 65536 65536 65536) 0), .int .i64 ((diagV 65536 65536 65536) 1), .int .i64 ((diagV 65536 65536 65536) 2), .int .i64 ((diagV 65536 65536 65536) 3), .int .i64 ((diagV 65536 65536 65536) 4), .int .i64 ((diagV 65536 65536 65536) 5), .int .i64 ((diagV 65536 65536 65536) 6), .int .i64 ((diagV 65536 65536 65536) 7), .int .i64 ((diagV 65536 65536 65536) 8), .int .i64 ((diagV 65536 65536 65536) 9), .int .i64 ((diagV 65536 65536 65536) 10), .int .i64 ((diagV 65536 65536 65536) 11)], .int .i64 0]) (by simp [results, Try.results32, go_sem, k0, k1, k2, k3, k4, k5, k6, k7, k8, k9, k10, k11]) rfl ⟨?_, HXZ.out⟩
      (simp only [hE.out, hR.out])
    · have hn0 : ((n : Int) == 0) = false := by rw [beq_eq_false_iff_ne]; omega
      have hE : Hid (mulME f n = foldE f (n - 1)) := by show _ = _; unfold mulME; rw [if_pos hv, if_neg (by omega)]
      have hR : Hid (∀ j, mulMR f n j = if foldE f (n - 1) = 0 then foldR f (n - 1) j else 0) := by show ∀ _, _; intro j; unfold mulMR; rw [if_pos hv, if_neg (by omega)]
      obtain rfl | hn2 : n = 1 ∨ 2 ≤ n := by omega
      · go_enter Try.func32, Try.ntmps32
        go_wp2_with (go_at_call 36; (with_reducible refine (mright_any _ _ _ f _ H1.out).mono ?_); rintro e w1 ⟨rfl, hx1⟩; rw [hv]; (obtain ⟨ad, rfl, hc0⟩ := (H1.out.ext hx1).2 0 (by omega)); have c0 := el0_0 (hc0 0 (by decide)); have c1 := el0_s (hc0 1 (by decide)); have c2 := el0_s (hc0 2 (by decide)); have c3 := el0_s (hc0 3 (by decide)); have c4 := el0_s (hc0 4 (by decide)); have c5 := el0_s (hc0 5 (by decide)); have c6 := el0_s (hc0 6 (by decide)); have c7 := el0_s (hc0 7 (by decide)); have c8 := el0_s (hc0 8 (by decide)); have c9 := el0_s (hc0 9 (by decide)); have c10 := el0_s (hc0 10 (by decide)); have c11 := el0_s (hc0 11 (by decide)); clear hc0)
        all_goals
          have hs : MSt w (w1.alloc (.cells #[.int .i64 ((f 0) 0), .int .i64 ((f 0) 1), .int .i64 ((f 0) 2), .int .i64 ((f 0) 3), .int .i64 ((f 0) 4), .int .i64 ((f 0) 5), .int .i64 ((f 0) 6), .int .i64 ((f 0) 7), .int .i64 ((f 0) 8), .int .i64 ((f 0) 9), .int .i64 ((f 0) 10), .int .i64 ((f 0) 11)] 49)) w.heap.size w1.heap.size (f 0) := ⟨(HX1.out.trans hx1).alloc _, (hres.out.ext hx1).ext ((Ext.refl _).alloc _), row12 (Lies.new _ _ _ _ rfl)⟩
          have HS := Lib.hid hs
          clear hs c0 c1 c2 c3 c4 c5 c6 c7 c8 c9 c10 c11
          generalize w1.alloc (.cells #[.int .i64 ((f 0) 0), .int .i64 ((f 0) 1), .int .i64 ((f 0) 2), .int .i64 ((f 0) 3), .int .i64 ((f 0) 4), .int .i64 ((f 0) 5), .int .i64 ((f 0) 6), .int .i64 ((f 0) 7), .int .i64 ((f 0) 8), .int .i64 ((f 0) 9), .int .i64 ((f 0) 10), .int .i64 ((f 0) 11)] 49) = w2 at *
          refine wp_loop_rounds 1 ?_
          rw [rounds_succ]
          have hk_ := fun i v hv => (HS.out.res.lies).at_ i v hv; obtain ⟨g0, gf0⟩ := hk_ 0 _ rfl; obtain ⟨g1, gf1⟩ := hk_ 1 _ rfl; obtain ⟨g2, gf2⟩ := hk_ 2 _ rfl; obtain ⟨g3, gf3⟩ := hk_ 3 _ rfl; obtain ⟨g4, gf4⟩ := hk_ 4 _ rfl; obtain ⟨g5, gf5⟩ := hk_ 5 _ rfl; obtain ⟨g6, gf6⟩ := hk_ 6 _ rfl; obtain ⟨g7, gf7⟩ := hk_ 7 _ rfl; obtain ⟨g8, gf8⟩ := hk_ 8 _ rfl; obtain ⟨g9, gf9⟩ := hk_ 9 _ rfl; obtain ⟨g10, gf10⟩ := hk_ 10 _ rfl; obtain ⟨g11, gf11⟩ := hk_ 11 _ rfl; clear hk_
          have hk_ := fun i v hv => (HS.out.row.lies).at_ i v hv; have o0 := (hk_ 0 _ rfl).1; have o1 := (hk_ 1 _ rfl).1; have o2 := (hk_ 2 _ rfl).1; have o3 := (hk_ 3 _ rfl).1; have o4 := (hk_ 4 _ rfl).1; have o5 := (hk_ 5 _ rfl).1; have o6 := (hk_ 6 _ rfl).1; have o7 := (hk_ 7 _ rfl).1; have o8 := (hk_ 8 _ rfl).1; have o9 := (hk_ 9 _ rfl).1; have o10 := (hk_ 10 _ rfl).1; have o11 := (hk_ 11 _ rfl).1; clear hk_
          go_wp2
          clear g0 g1 g2 g3 g4 g5 g6 g7 g8 g9 g10 g11 gf0 gf1 gf2 gf3 gf4 gf5 gf6 gf7 gf8 gf9 gf10 gf11 o0 o1 o2 o3 o4 o5 o6 o7 o8 o9 o10 o11
          have HZ := Lib.hid (show RowZ ((((((((((((w2.setCell ⟨w.heap.size, 0, none⟩ (.int .i64 ((f 0) 0))).setCell ⟨w.heap.size, 1, none⟩ (.int .i64 ((f 0) 1))).setCell ⟨w.heap.size, 2, none⟩ (.int .i64 ((f 0) 2))).setCell ⟨w.heap.size, 3, none⟩ (.int .i64 ((f 0) 3))).setCell ⟨w.heap.size, 4, none⟩ (.int .i64 ((f 0) 4))).setCell ⟨w.heap.size, 5, none⟩ (.int .i64 ((f 0) 5))).setCell ⟨w.heap.size, 6, none⟩ (.int .i64 ((f 0) 6))).setCell ⟨w.heap.size, 7, none⟩ (.int .i64 ((f 0) 7))).setCell ⟨w.heap.size, 8, none⟩ (.int .i64 ((f 0) 8))).setCell ⟨w.heap.size, 9, none⟩ (.int .i64 ((f 0) 9))).setCell ⟨w.heap.size, 10, none⟩ (.int .i64 ((f 0) 10))).setCell ⟨w.heap.size, 11, none⟩ (.int .i64 ((f 0) 11))) w.heap.size 49 12 (f 0) from RowZ.all12 HS.out.res (f 0))
          have HXZ := Lib.hid (show Ext _ ((((((((((((w2.setCell ⟨w.heap.size, 0, none⟩ (.int .i64 ((f 0) 0))).setCell ⟨w.heap.size, 1, none⟩ (.int .i64 ((f 0) 1))).setCell ⟨w.heap.size, 2, none⟩ (.int .i64 ((f 0) 2))).setCell ⟨w.heap.size, 3, none⟩ (.int .i64 ((f 0) 3))).setCell ⟨w.heap.size, 4, none⟩ (.int .i64 ((f 0) 4))).setCell ⟨w.heap.size, 5, none⟩ (.int .i64 ((f 0) 5))).setCell ⟨w.heap.size, 6, none⟩ (.int .i64 ((f 0) 6))).setCell ⟨w.heap.size, 7, none⟩ (.int .i64 ((f 0) 7))).setCell ⟨w.heap.size, 8, none⟩ (.int .i64 ((f 0) 8))).setCell ⟨w.heap.size, 9, none⟩ (.int .i64 ((f 0) 9))).setCell ⟨w.heap.size, 10, none⟩ (.int .i64 ((f 0) 10))).setCell ⟨w.heap.size, 11, none⟩ (.int .i64 ((f 0) 11))) from ext12 HS.out.ext hl0 _ _ _ _ _ _ _ _ _ _ _ _)
          generalize ((((((((((((w2.setCell ⟨w.heap.size, 0, none⟩ (.int .i64 ((f 0) 0))).setCell ⟨w.heap.size, 1, none⟩ (.int .i64 ((f 0) 1))).setCell ⟨w.heap.size, 2, none⟩ (.int .i64 ((f 0) 2))).setCell ⟨w.heap.size, 3, none⟩ (.int .i64 ((f 0) 3))).setCell ⟨w.heap.size, 4, none⟩ (.int .i64 ((f 0) 4))).setCell ⟨w.heap.size, 5, none⟩ (.int .i64 ((f 0) 5))).setCell ⟨w.heap.size, 6, none⟩ (.int .i64 ((f 0) 6))).setCell ⟨w.heap.size, 7, none⟩ (.int .i64 ((f 0) 7))).setCell ⟨w.heap.size, 8, none⟩ (.int .i64 ((f 0) 8))).setCell ⟨w.heap.size, 9, none⟩ (.int .i64 ((f 0) 9))).setCell ⟨w.heap.size, 10, none⟩ (.int .i64 ((f 0) 10))).setCell ⟨w.heap.size, 11, none⟩ (.int .i64 ((f 0) 11))) = wz at *
          have k0 : wz.cell? ⟨w.heap.size, 0, none⟩ = some (.int .i64 ((f 0) 0)) := (HZ.out.at_ 0 (by decide)).1
          have k1 : wz.cell? ⟨w.heap.size, 1, none⟩ = some (.int .i64 ((f 0) 1)) := (HZ.out.at_ 1 (by decide)).1
          have k2 : wz.cell? ⟨w.heap.size, 2, none⟩ = some (.int .i64 ((f 0) 2)) := (HZ.out.at_ 2 (by decide)).1
          have k3 : wz.cell? ⟨w.heap.size, 3, none⟩ = some (.int .i64 ((f 0) 3)) := (HZ.out.at_ 3 (by decide)).1
          have k4 : wz.cell? ⟨w.heap.size, 4, none⟩ = some (.int .i64 ((f 0) 4)) := (HZ.out.at_ 4 (by decide)).1
          have k5 : wz.cell? ⟨w.heap.size, 5, none⟩ = some (.int .i64 ((f 0) 5)) := (HZ.out.at_ 5 (by decide)).1
          have k6 : wz.cell? ⟨w.heap.size, 6, none⟩ = some (.int .i64 ((f 0) 6)) := (HZ.out.at_ 6 (by decide)).1
          have k7 : wz.cell? ⟨w.heap.size, 7, none⟩ = some (.int .i64 ((f 0) 7)) := (HZ.out.at_ 7 (by decide)).1
          have k8 : wz.cell? ⟨w.heap.size, 8, none⟩ = some (.int .i64 ((f 0) 8)) := (HZ.out.at_ 8 (by decide)).1
          have k9 : wz.cell? ⟨w.heap.size, 9, none⟩ = some (.int .i64 ((f 0) 9)) := (HZ.out.at_ 9 (by decide)).1
          have k10 : wz.cell? ⟨w.heap.size, 10, none⟩ = some (.int .i64 ((f 0) 10)) := (HZ.out.at_ 10 (by decide)).1
          have k11 : wz.cell? ⟨w.heap.size, 11, none⟩ = some (.int .i64 ((f 0) 11)) := (HZ.out.at_ 11 (by decide)).1
          refine bodyPost_ret (v := .tuple #[.agg #[.int .i64 ((f 0) 0), .int .i64 ((f 0) 1), .int .i64 ((f 0) 2), .int .i64 ((f 0) 3), .int .i64 ((f 0) 4), .int .i64 ((f 0) 5), .int .i64 ((f 0) 6), .int .i64 ((f 0) 7), .int .i64 ((f 0) 8), .int .i64 ((f 0) 9), .int .i64 ((f 0) 10), .int .i64 ((f 0) 11)], .int .i64 0]) (by simp [results, Try.results32, go_sem, k0, k1, k2, k3, k4, k5, k6, k7, k8, k9, k10, k11]) rfl ⟨?_, HXZ.out⟩
          (simp only [hE.out, hR.out]; rfl)
      · go_enter Try.func32, Try.ntmps32
        go_wp2_with (go_at_call 36; (with_reducible refine (mright_any _ _ _ f _ H1.out).mono ?_); rintro e w1 ⟨rfl, hx1⟩; rw [hv]; (obtain ⟨ad, rfl, hc0⟩ := (H1.out.ext hx1).2 0 (by omega)); have c0 := el0_0 (hc0 0 (by decide)); have c1 := el0_s (hc0 1 (by decide)); have c2 := el0_s (hc0 2 (by decide)); have c3 := el0_s (hc0 3 (by decide)); have c4 := el0_s (hc0 4 (by decide)); have c5 := el0_s (hc0 5 (by decide)); have c6 := el0_s (hc0 6 (by decide)); have c7 := el0_s (hc0 7 (by decide)); have c8 := el0_s (hc0 8 (by decide)); have c9 := el0_s (hc0 9 (by decide)); have c10 := el0_s (hc0 10 (by decide)); have c11 := el0_s (hc0 11 (by decide)); clear hc0)
        have hl1 : w.heap.size ≤ w1.heap.size := (HX1.out.trans hx1).size
        have hgo : w.heap.size < w1.heap.size := by have := hx1.size; simp at this; omega
        have hs : MSt w (w1.alloc (.cells #[.int .i64 ((f 0) 0), .int .i64 ((f 0) 1), .int .i64 ((f 0) 2), .int .i64 ((f 0) 3), .int .i64 ((f 0) 4), .int .i64 ((f 0) 5), .int .i64 ((f 0) 6), .int .i64 ((f 0) 7), .int .i64 ((f 0) 8), .int .i64 ((f 0) 9), .int .i64 ((f 0) 10), .int .i64 ((f 0) 11)] 49)) w.heap.size w1.heap.size (foldR f 0) := ⟨(HX1.out.trans hx1).alloc _, (hres.out.ext hx1).ext ((Ext.refl _).alloc _), row12 (Lies.new _ _ _ _ rfl)⟩
        have HS := Lib.hid hs
        have HL := Lib.hid H.out.tail
        clear hs c0 c1 c2 c3 c4 c5 c6 c7 c8 c9 c10 c11
        generalize w1.alloc (.cells #[.int .i64 ((f 0) 0), .int .i64 ((f 0) 1), .int .i64 ((f 0) 2), .int .i64 ((f 0) 3), .int .i64 ((f 0) 4), .int .i64 ((f 0) 5), .int .i64 ((f 0) 6), .int .i64 ((f 0) 7), .int .i64 ((f 0) 8), .int .i64 ((f 0) 9), .int .i64 ((f 0) 10), .int .i64 ((f 0) 11)] 49) = w2 at *
        go_loopw [6, 7, 8, 23] (fun _ _ _ i wr => ∃ k : Nat, k ≤ n - 1 ∧ i = .int .i64 k ∧ foldE f k = 0 ∧ MSt w wr w.heap.size w1.heap.size (foldR f k)) (fun _ _ _ i _ => n - 1 - (intOf i).toNat)
        case atStart => exact ⟨0, by omega, rfl, rfl, HS.out⟩
        case round =>
          obtain ⟨k, hk, rfl, hf, ht⟩ := hrel
          have HF := Lib.hid hf; have HT := Lib.hid ht; clear hf ht
          by_cases hlt : k < n - 1
          · obtain ⟨ad', e', hc⟩ := HL.out.2 k hlt
            cases e'
            have hc : ∀ j, j < 12 → wr.cell? ⟨ad.block, ad.off + 12 + k * 12 + j, none⟩ = some (.int .i64 (f (k + 1) j)) := fun j hj => by
              have := HT.out.ext.cell (hc j hj)
              rw [off_add] at this
              rwa [Nat.add_assoc]
            have c0 := hc 0 (by decide); have c1 := hc 1 (by decide); have c2 := hc 2 (by decide); have c3 := hc 3 (by decide); have c4 := hc 4 (by decide); have c5 := hc 5 (by decide); have c6 := hc 6 (by decide); have c7 := hc 7 (by decide); have c8 := hc 8 (by decide); have c9 := hc 9 (by decide); have c10 := hc 10 (by decide); have c11 := hc 11 (by decide)
            rw [Nat.add_zero] at c0
            have hc12 : ∀ W', Ext wr W' → ∀ j, j < 12 → W'.cell? ⟨w1.heap.size, j, none⟩ = some (.int .i64 (foldR f k j)) := fun W' hw j hj => hw.cell (HT.out.row.at_ j hj).1
            have hEr : Ext wr wr := Ext.refl _
            have hEa : ∀ W o, Ext wr W → Ext wr (W.alloc o) := fun W o h => h.alloc o
            clear hc
            have hdl : decide ((k : Int) < ((n - 1 : Nat) : Int)) = true := decide_eq_true (by omega)
            by_cases he : twoE (foldR f k) (f (k + 1)) = 0
            · have hn1 : Hid (foldE f (k + 1) = 0) := by show (if foldE f k = 0 then _ else _) = _; rw [if_pos HF.out, he]
              go_wp2_with (go_at_call 94; (with_reducible refine (two_any (foldR f k) (f (k + 1)) _).mono ?_); rintro e v1 ⟨rfl, hx1⟩; have HT3 := Lib.hid ((HT.out.next (((Ext.refl _).alloc _).trans hx1)).next ((Ext.refl _).alloc (.cells #[.int .i64 ((twoR (foldR f k) (f (k + 1))) 0), .int .i64 ((twoR (foldR f k) (f (k + 1))) 1), .int .i64 ((twoR (foldR f k) (f (k + 1))) 2), .int .i64 ((twoR (foldR f k) (f (k + 1))) 3), .int .i64 ((twoR (foldR f k) (f (k + 1))) 4), .int .i64 ((twoR (foldR f k) (f (k + 1))) 5), .int .i64 ((twoR (foldR f k) (f (k + 1))) 6), .int .i64 ((twoR (foldR f k) (f (k + 1))) 7), .int .i64 ((twoR (foldR f k) (f (k + 1))) 8), .int .i64 ((twoR (foldR f k) (f (k + 1))) 9), .int .i64 ((twoR (foldR f k) (f (k + 1))) 10), .int .i64 ((twoR (foldR f k) (f (k + 1))) 11)] 49))); clear c0 c1 c2 c3 c4 c5 c6 c7 c8 c9 c10 c11 hc12 hEr hEa; have hk_ := fun i v hv => (HT3.out.row.lies).at_ i v hv; obtain ⟨o0, of0⟩ := hk_ 0 _ rfl; obtain ⟨o1, of1⟩ := hk_ 1 _ rfl; obtain ⟨o2, of2⟩ := hk_ 2 _ rfl; obtain ⟨o3, of3⟩ := hk_ 3 _ rfl; obtain ⟨o4, of4⟩ := hk_ 4 _ rfl; obtain ⟨o5, of5⟩ := hk_ 5 _ rfl; obtain ⟨o6, of6⟩ := hk_ 6 _ rfl; obtain ⟨o7, of7⟩ := hk_ 7 _ rfl; obtain ⟨o8, of8⟩ := hk_ 8 _ rfl; obtain ⟨o9, of9⟩ := hk_ 9 _ rfl; obtain ⟨o10, of10⟩ := hk_ 10 _ rfl; obtain ⟨o11, of11⟩ := hk_ 11 _ rfl; clear hk_)
              go_roundw
              case rel => exact ⟨k + 1, by omega, by go_num, hn1.out, HT3.out.all12 hl1 (by omega) (foldR f (k + 1))⟩
              case measure => simp [intOf]; omega
            · have hE2 : Hid (foldE f (n - 1) = twoE (foldR f k) (f (k + 1))) := by
                have h1 : foldE f (k + 1) = twoE (foldR f k) (f (k + 1)) := by show (if foldE f k = 0 then _ else _) = _; rw [if_pos HF.out]
                show _ = _
                rw [show n - 1 = (k + 1) + (n - 1 - (k + 1)) by omega, foldE_stay _ _ _ (by rw [h1]; exact he), h1]
              have hR2 : Hid (∀ j, mulMR f n j = 0) := by show ∀ _, _; intro j; rw [hR.out, hE2.out, if_neg he]
              have heb : (twoE (foldR f k) (f (k + 1)) != 0) = true := by simpa using he
              clear he
              go_wp2_with (go_at_call 94; (with_reducible refine (two_any (foldR f k) (f (k + 1)) _).mono ?_); rintro e v1 ⟨rfl, hx1⟩; have HT3 := Lib.hid ((HT.out.next (((Ext.refl _).alloc _).trans hx1)).next ((Ext.refl _).alloc (.cells #[.int .i64 ((twoR (foldR f k) (f (k + 1))) 0), .int .i64 ((twoR (foldR f k) (f (k + 1))) 1), .int .i64 ((twoR (foldR f k) (f (k + 1))) 2), .int .i64 ((twoR (foldR f k) (f (k + 1))) 3), .int .i64 ((twoR (foldR f k) (f (k + 1))) 4), .int .i64 ((twoR (foldR f k) (f (k + 1))) 5), .int .i64 ((twoR (foldR f k) (f (k + 1))) 6), .int .i64 ((twoR (foldR f k) (f (k + 1))) 7), .int .i64 ((twoR (foldR f k) (f (k + 1))) 8), .int .i64 ((twoR (foldR f k) (f (k + 1))) 9), .int .i64 ((twoR (foldR f k) (f (k + 1))) 10), .int .i64 ((twoR (foldR f k) (f (k + 1))) 11)] 49))); clear c0 c1 c2 c3 c4 c5 c6 c7 c8 c9 c10 c11 hc12 hEr hEa; have hk_ := fun i v hv => (HT3.out.res.lies).at_ i v hv; obtain ⟨g0, gf0⟩ := hk_ 0 _ rfl; obtain ⟨g1, gf1⟩ := hk_ 1 _ rfl; obtain ⟨g2, gf2⟩ := hk_ 2 _ rfl; obtain ⟨g3, gf3⟩ := hk_ 3 _ rfl; obtain ⟨g4, gf4⟩ := hk_ 4 _ rfl; obtain ⟨g5, gf5⟩ := hk_ 5 _ rfl; obtain ⟨g6, gf6⟩ := hk_ 6 _ rfl; obtain ⟨g7, gf7⟩ := hk_ 7 _ rfl; obtain ⟨g8, gf8⟩ := hk_ 8 _ rfl; obtain ⟨g9, gf9⟩ := hk_ 9 _ rfl; obtain ⟨g10, gf10⟩ := hk_ 10 _ rfl; obtain ⟨g11, gf11⟩ := hk_ 11 _ rfl; clear hk_)
              clear g0 g1 g2 g3 g4 g5 g6 g7 g8 g9 g10 g11 gf0 gf1 gf2 gf3 gf4 gf5 gf6 gf7 gf8 gf9 gf10 gf11
              have HZ := Lib.hid (show RowZ (((((((((((((v1.alloc (.cells #[.int .i64 ((twoR (foldR f k) (f (k + 1))) 0), .int .i64 ((twoR (foldR f k) (f (k + 1))) 1), .int .i64 ((twoR (foldR f k) (f (k + 1))) 2), .int .i64 ((twoR (foldR f k) (f (k + 1))) 3), .int .i64 ((twoR (foldR f k) (f (k + 1))) 4), .int .i64 ((twoR (foldR f k) (f (k + 1))) 5), .int .i64 ((twoR (foldR f k) (f (k + 1))) 6), .int .i64 ((twoR (foldR f k) (f (k + 1))) 7), .int .i64 ((twoR (foldR f k) (f (k + 1))) 8), .int .i64 ((twoR (foldR f k) (f (k + 1))) 9), .int .i64 ((twoR (foldR f k) (f (k + 1))) 10), .int .i64 ((twoR (foldR f k) (f (k + 1))) 11)] 49)).setCell ⟨w.heap.size, 0, none⟩ (.int .i64 0)).setCell ⟨w.heap.size, 1, none⟩ (.int .i64 0)).setCell ⟨w.heap.size, 2, none⟩ (.int .i64 0)).setCell ⟨w.heap.size, 3, none⟩ (.int .i64 0)).setCell ⟨w.heap.size, 4, none⟩ (.int .i64 0)).setCell ⟨w.heap.size, 5, none⟩ (.int .i64 0)).setCell ⟨w.heap.size, 6, none⟩ (.int .i64 0)).setCell ⟨w.heap.size, 7, none⟩ (.int .i64 0)).setCell ⟨w.heap.size, 8, none⟩ (.int .i64 0)).setCell ⟨w.heap.size, 9, none⟩ (.int .i64 0)).setCell ⟨w.heap.size, 10, none⟩ (.int .i64 0)).setCell ⟨w.heap.size, 11, none⟩ (.int .i64 0)) w.heap.size 49 12 zeroM from RowZ.all12 HT3.out.res zeroM)
              have HXZ := Lib.hid (show Ext _ (((((((((((((v1.alloc (.cells #[.int .i64 ((twoR (foldR f k) (f (k + 1))) 0), .int .i64 ((twoR (foldR f k) (f (k + 1))) 1), .int .i64 ((twoR (foldR f k) (f (k + 1))) 2), .int .i64 ((twoR (foldR f k) (f (k + 1))) 3), .int .i64 ((twoR (foldR f k) (f (k + 1))) 4), .int .i64 ((twoR (foldR f k) (f (k + 1))) 5), .int .i64 ((twoR (foldR f k) (f (k + 1))) 6), .int .i64 ((twoR (foldR f k) (f (k + 1))) 7), .int .i64 ((twoR (foldR f k) (f (k + 1))) 8), .int .i64 ((twoR (foldR f k) (f (k + 1))) 9), .int .i64 ((twoR (foldR f k) (f (k + 1))) 10), .int .i64 ((twoR (foldR f k) (f (k + 1))) 11)] 49)).setCell ⟨w.heap.size, 0, none⟩ (.int .i64 0)).setCell ⟨w.heap.size, 1, none⟩ (.int .i64 0)).setCell ⟨w.heap.size, 2, none⟩ (.int .i64 0)).setCell ⟨w.heap.size, 3, none⟩ (.int .i64 0)).setCell ⟨w.heap.size, 4, none⟩ (.int .i64 0)).setCell ⟨w.heap.size, 5, none⟩ (.int .i64 0)).setCell ⟨w.heap.size, 6, none⟩ (.int .i64 0)).setCell ⟨w.heap.size, 7, none⟩ (.int .i64 0)).setCell ⟨w.heap.size, 8, none⟩ (.int .i64 0)).setCell ⟨w.heap.size, 9, none⟩ (.int .i64 0)).setCell ⟨w.heap.size, 10, none⟩ (.int .i64 0)).setCell ⟨w.heap.size, 11, none⟩ (.int .i64 0)) from ext12 HT3.out.ext hl0 _ _ _ _ _ _ _ _ _ _ _ _)
              generalize (((((((((((((v1.alloc (.cells #[.int .i64 ((twoR (foldR f k) (f (k + 1))) 0), .int .i64 ((twoR (foldR f k) (f (k + 1))) 1), .int .i64 ((twoR (foldR f k) (f (k + 1))) 2), .int .i64 ((twoR (foldR f k) (f (k + 1))) 3), .int .i64 ((twoR (foldR f k) (f (k + 1))) 4), .int .i64 ((twoR (foldR f k) (f (k + 1))) 5), .int .i64 ((twoR (foldR f k) (f (k + 1))) 6), .int .i64 ((twoR (foldR f k) (f (k + 1))) 7), .int .i64 ((twoR (foldR f k) (f (k + 1))) 8), .int .i64 ((twoR (foldR f k) (f (k + 1))) 9), .int .i64 ((twoR (foldR f k) (f (k + 1))) 10), .int .i64 ((twoR (foldR f k) (f (k + 1))) 11)] 49)).setCell ⟨w.heap.size, 0, none⟩ (.int .i64 0)).setCell ⟨w.heap.size, 1, none⟩ (.int .i64 0)).setCell ⟨w.heap.size, 2, none⟩ (.int .i64 0)).setCell ⟨w.heap.size, 3, none⟩ (.int .i64 0)).setCell ⟨w.heap.size, 4, none⟩ (.int .i64 0)).setCell ⟨w.heap.size, 5, none⟩ (.int .i64 0)).setCell ⟨w.heap.size, 6, none⟩ (.int .i64 0)).setCell ⟨w.heap.size, 7, none⟩ (.int .i64 0)).setCell ⟨w.heap.size, 8, none⟩ (.int .i64 0)).setCell ⟨w.heap.size, 9, none⟩ (.int .i64 0)).setCell ⟨w.heap.size, 10, none⟩ (.int .i64 0)).setCell ⟨w.heap.size, 11, none⟩ (.int .i64 0)) = wz at *
              have k0 : wz.cell? ⟨w.heap.size, 0, none⟩ = some (.int .i64 0) := (HZ.out.at_ 0 (by decide)).1
              have k1 : wz.cell? ⟨w.heap.size, 1, none⟩ = some (.int .i64 0) := (HZ.out.at_ 1 (by decide)).1
              have k2 : wz.cell? ⟨w.heap.size, 2, none⟩ = some (.int .i64 0) := (HZ.out.at_ 2 (by decide)).1
              have k3 : wz.cell? ⟨w.heap.size, 3, none⟩ = some (.int .i64 0) := (HZ.out.at_ 3 (by decide)).1
              have k4 : wz.cell? ⟨w.heap.size, 4, none⟩ = some (.int .i64 0) := (HZ.out.at_ 4 (by decide)).1
              have k5 : wz.cell? ⟨w.heap.size, 5, none⟩ = some (.int .i64 0) := (HZ.out.at_ 5 (by decide)).1
              have k6 : wz.cell? ⟨w.heap.size, 6, none⟩ = some (.int .i64 0) := (HZ.out.at_ 6 (by decide)).1
              have k7 : wz.cell? ⟨w.heap.size, 7, none⟩ = some (.int .i64 0) := (HZ.out.at_ 7 (by decide)).1
              have k8 : wz.cell? ⟨w.heap.size, 8, none⟩ = some (.int .i64 0) := (HZ.out.at_ 8 (by decide)).1
              have k9 : wz.cell? ⟨w.heap.size, 9, none⟩ = some (.int .i64 0) := (HZ.out.at_ 9 (by decide)).1
              have k10 : wz.cell? ⟨w.heap.size, 10, none⟩ = some (.int .i64 0) := (HZ.out.at_ 10 (by decide)).1
              have k11 : wz.cell? ⟨w.heap.size, 11, none⟩ = some (.int .i64 0) := (HZ.out.at_ 11 (by decide)).1
              refine bodyPost_ret (v := .tuple #[.agg #[.int .i64 0, .int .i64 0, .int .i64 0, .int .i64 0, .int .i64 0, .int .i64 0, .int .i64 0, .int .i64 0, .int .i64 0, .int .i64 0, .int .i64 0, .int .i64 0], .int .i64 (twoE (foldR f k) (f (k + 1)))]) (by simp [results, Try.results32, go_sem, k0, k1, k2, k3, k4, k5, k6, k7, k8, k9, k10, k11]) rfl ⟨?_, HXZ.out⟩
              (simp only [hE.out, hE2.out, hR2.out])
          · obtain rfl : n - 1 = k := by omega
            have hfin : Hid (∀ j, mulMR f n j = foldR f (n - 1) j) := by show ∀ _, _; intro j; rw [hR.out, HF.out, if_pos rfl]
            have hk_ := fun i v hv => (HT.out.res.lies).at_ i v hv; obtain ⟨g0, gf0⟩ := hk_ 0 _ rfl; obtain ⟨g1, gf1⟩ := hk_ 1 _ rfl; obtain ⟨g2, gf2⟩ := hk_ 2 _ rfl; obtain ⟨g3, gf3⟩ := hk_ 3 _ rfl; obtain ⟨g4, gf4⟩ := hk_ 4 _ rfl; obtain ⟨g5, gf5⟩ := hk_ 5 _ rfl; obtain ⟨g6, gf6⟩ := hk_ 6 _ rfl; obtain ⟨g7, gf7⟩ := hk_ 7 _ rfl; obtain ⟨g8, gf8⟩ := hk_ 8 _ rfl; obtain ⟨g9, gf9⟩ := hk_ 9 _ rfl; obtain ⟨g10, gf10⟩ := hk_ 10 _ rfl; obtain ⟨g11, gf11⟩ := hk_ 11 _ rfl; clear hk_
            have hk_ := fun i v hv => (HT.out.row.lies).at_ i v hv; have o0 := (hk_ 0 _ rfl).1; have o1 := (hk_ 1 _ rfl).1; have o2 := (hk_ 2 _ rfl).1; have o3 := (hk_ 3 _ rfl).1; have o4 := (hk_ 4 _ rfl).1; have o5 := (hk_ 5 _ rfl).1; have o6 := (hk_ 6 _ rfl).1; have o7 := (hk_ 7 _ rfl).1; have o8 := (hk_ 8 _ rfl).1; have o9 := (hk_ 9 _ rfl).1; have o10 := (hk_ 10 _ rfl).1; have o11 := (hk_ 11 _ rfl).1; clear hk_
            go_wp2
            clear g0 g1 g2 g3 g4 g5 g6 g7 g8 g9 g10 g11 gf0 gf1 gf2 gf3 gf4 gf5 gf6 gf7 gf8 gf9 gf10 gf11 o0 o1 o2 o3 o4 o5 o6 o7 o8 o9 o10 o11
            have HZ := Lib.hid (show RowZ ((((((((((((wr.setCell ⟨w.heap.size, 0, none⟩ (.int .i64 ((foldR f (n - 1)) 0))).setCell ⟨w.heap.size, 1, none⟩ (.int .i64 ((foldR f (n - 1)) 1))).setCell ⟨w.heap.size, 2, none⟩ (.int .i64 ((foldR f (n - 1)) 2))).setCell ⟨w.heap.size, 3, none⟩ (.int .i64 ((foldR f (n - 1)) 3))).setCell ⟨w.heap.size, 4, none⟩ (.int .i64 ((foldR f (n - 1)) 4))).setCell ⟨w.heap.size, 5, none⟩ (.int .i64 ((foldR f (n - 1)) 5))).setCell ⟨w.heap.size, 6, none⟩ (.int .i64 ((foldR f (n - 1)) 6))).setCell ⟨w.heap.size, 7, none⟩ (.int .i64 ((foldR f (n - 1)) 7))).setCell ⟨w.heap.size, 8, none⟩ (.int .i64 ((foldR f (n - 1)) 8))).setCell ⟨w.heap.size, 9, none⟩ (.int .i64 ((foldR f (n - 1)) 9))).setCell ⟨w.heap.size, 10, none⟩ (.int .i64 ((foldR f (n - 1)) 10))).setCell ⟨w.heap.size, 11, none⟩ (.int .i64 ((foldR f (n - 1)) 11))) w.heap.size 49 12 (foldR f (n - 1)) from RowZ.all12 HT.out.res (foldR f (n - 1)))
            have HXZ := Lib.hid (show Ext _ ((((((((((((wr.setCell ⟨w.heap.size, 0, none⟩ (.int .i64 ((foldR f (n - 1)) 0))).setCell ⟨w.heap.size, 1, none⟩ (.int .i64 ((foldR f (n - 1)) 1))).setCell ⟨w.heap.size, 2, none⟩ (.int .i64 ((foldR f (n - 1)) 2))).setCell ⟨w.heap.size, 3, none⟩ (.int .i64 ((foldR f (n - 1)) 3))).setCell ⟨w.heap.size, 4, none⟩ (.int .i64 ((foldR f (n - 1)) 4))).setCell ⟨w.heap.size, 5, none⟩ (.int .i64 ((foldR f (n - 1)) 5))).setCell ⟨w.heap.size, 6, none⟩ (.int .i64 ((foldR f (n - 1)) 6))).setCell ⟨w.heap.size, 7, none⟩ (.int .i64 ((foldR f (n - 1)) 7))).setCell ⟨w.heap.size, 8, none⟩ (.int .i64 ((foldR f (n - 1)) 8))).setCell ⟨w.heap.size, 9, none⟩ (.int .i64 ((foldR f (n - 1)) 9))).setCell ⟨w.heap.size, 10, none⟩ (.int .i64 ((foldR f (n - 1)) 10))).setCell ⟨w.heap.size, 11, none⟩ (.int .i64 ((foldR f (n - 1)) 11))) from ext12 HT.out.ext hl0 _ _ _ _ _ _ _ _ _ _ _ _)
            generalize ((((((((((((wr.setCell ⟨w.heap.size, 0, none⟩ (.int .i64 ((foldR f (n - 1)) 0))).setCell ⟨w.heap.size, 1, none⟩ (.int .i64 ((foldR f (n - 1)) 1))).setCell ⟨w.heap.size, 2, none⟩ (.int .i64 ((foldR f (n - 1)) 2))).setCell ⟨w.heap.size, 3, none⟩ (.int .i64 ((foldR f (n - 1)) 3))).setCell ⟨w.heap.size, 4, none⟩ (.int .i64 ((foldR f (n - 1)) 4))).setCell ⟨w.heap.size, 5, none⟩ (.int .i64 ((foldR f (n - 1)) 5))).setCell ⟨w.heap.size, 6, none⟩ (.int .i64 ((foldR f (n - 1)) 6))).setCell ⟨w.heap.size, 7, none⟩ (.int .i64 ((foldR f (n - 1)) 7))).setCell ⟨w.heap.size, 8, none⟩ (.int .i64 ((foldR f (n - 1)) 8))).setCell ⟨w.heap.size, 9, none⟩ (.int .i64 ((foldR f (n - 1)) 9))).setCell ⟨w.heap.size, 10, none⟩ (.int .i64 ((foldR f (n - 1)) 10))).setCell ⟨w.heap.size, 11, none⟩ (.int .i64 ((foldR f (n - 1)) 11))) = wz at *
            have k0 : wz.cell? ⟨w.heap.size, 0, none⟩ = some (.int .i64 ((foldR f (n - 1)) 0)) := (HZ.out.at_ 0 (by decide)).1
            have k1 : wz.cell? ⟨w.heap.size, 1, none⟩ = some (.int .i64 ((foldR f (n - 1)) 1)) := (HZ.out.at_ 1 (by decide)).1
            have k2 : wz.cell? ⟨w.heap.size, 2, none⟩ = some (.int .i64 ((foldR f (n - 1)) 2)) := (HZ.out.at_ 2 (by decide)).1
            have k3 : wz.cell? ⟨w.heap.size, 3, none⟩ = some (.int .i64 ((foldR f (n - 1)) 3)) := (HZ.out.at_ 3 (by decide)).1
            have k4 : wz.cell? ⟨w.heap.size, 4, none⟩ = some (.int .i64 ((foldR f (n - 1)) 4)) := (HZ.out.at_ 4 (by decide)).1
            have k5 : wz.cell? ⟨w.heap.size, 5, none⟩ = some (.int .i64 ((foldR f (n - 1)) 5)) := (HZ.out.at_ 5 (by decide)).1
            have k6 : wz.cell? ⟨w.heap.size, 6, none⟩ = some (.int .i64 ((foldR f (n - 1)) 6)) := (HZ.out.at_ 6 (by decide)).1
            have k7 : wz.cell? ⟨w.heap.size, 7, none⟩ = some (.int .i64 ((foldR f (n - 1)) 7)) := (HZ.out.at_ 7 (by decide)).1
            have k8 : wz.cell? ⟨w.heap.size, 8, none⟩ = some (.int .i64 ((foldR f (n - 1)) 8)) := (HZ.out.at_ 8 (by decide)).1
            have k9 : wz.cell? ⟨w.heap.size, 9, none⟩ = some (.int .i64 ((foldR f (n - 1)) 9)) := (HZ.out.at_ 9 (by decide)).1
            have k10 : wz.cell? ⟨w.heap.size, 10, none⟩ = some (.int .i64 ((foldR f (n - 1)) 10)) := (HZ.out.at_ 10 (by decide)).1
            have k11 : wz.cell? ⟨w.heap.size, 11, none⟩ = some (.int .i64 ((foldR f (n - 1)) 11)) := (HZ.out.at_ 11 (by decide)).1
            refine bodyPost_ret (v := .tuple #[.agg #[.int .i64 ((foldR f (n - 1)) 0), .int .i64 ((foldR f (n - 1)) 1), .int .i64 ((foldR f (n - 1)) 2), .int .i64 ((foldR f (n - 1)) 3), .int .i64 ((foldR f (n - 1)) 4), .int .i64 ((foldR f (n - 1)) 5), .int .i64 ((foldR f (n - 1)) 6), .int .i64 ((foldR f (n - 1)) 7), .int .i64 ((foldR f (n - 1)) 8), .int .i64 ((foldR f (n - 1)) 9), .int .i64 ((foldR f (n - 1)) 10), .int .i64 ((foldR f (n - 1)) 11)], .int .i64 0]) (by simp [results, Try.results32, go_sem, k0, k1, k2, k3, k4, k5, k6, k7, k8, k9, k10, k11]) rfl ⟨?_, HXZ.out⟩
            (simp only [hE.out, hfin.out, HF.out])
end Go.Proofs.Ytmgckodihnmjoaa
