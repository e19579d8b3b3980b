/-
  The reference of layer 3: the product of two matrices; walked. Conditions: none. (Printed by tools/genref03e.py.)
-/
import Derived.Test.YtmgckodihnmjoaaRef03d
set_option linter.unusedVariables false
set_option linter.unusedSimpArgs false
namespace Go.Proofs.Ytmgckodihnmjoaa
open Go.RowKit

def rtwoB (a b : Nat → Int) : Bool := matB a && matB b
def rtwoE (a b : Nat → Int) : Int := if rtwoB a b then twoE a b else 1
def rtwoR (a b : Nat → Int) (j : Nat) : Int := if rtwoB a b then twoR a b j else 0
theorem rtwo_no {a b : Nat → Int} (h : rtwoB a b = false) : rtwoE a b = 1 ∧ ∀ j, rtwoR a b j = 0 := by
  simp [rtwoE, rtwoR, h]
theorem rtwo_err {a b : Nat → Int} (h : rtwoB a b = true) {i : Nat} (hi : i < 12) (hf : firstE (entsE a b) i = 0) (he : ¬ entsE a b i = 0) : rtwoE a b = entsE a b i ∧ ∀ j, rtwoR a b j = 0 := by
  have : twoE a b = entsE a b i := firstE_hit hf he hi
  unfold rtwoE rtwoR twoR
  rw [if_pos h, this]
  exact ⟨rfl, fun j => by rw [if_pos h, if_neg he]⟩
theorem rtwo_ok {a b : Nat → Int} (h : rtwoB a b = true) (hf : firstE (entsE a b) 12 = 0) : rtwoE a b = 0 ∧ ∀ j, rtwoR a b j = entsR a b j := by
  have : twoE a b = 0 := hf
  unfold rtwoE rtwoR twoR
  rw [if_pos h, this]
  exact ⟨rfl, fun j => by rw [if_pos h, if_pos rfl]⟩
theorem MSt.set {w w' : World} {gr go : Nat} {V : Nat → Int} {n : Nat} (h : MSt w w' gr go (doneV V n)) (h0 : w.heap.size ≤ go) (h3 : go ≠ gr) (x : Int) (hx : V n = x) : MSt w (w'.setCell ⟨go, n, none⟩ (.int .i64 x)) gr go (doneV V (n + 1)) :=
  ⟨h.ext.set h0 _, h.res.other h3 _ _, h.row.set n x (by simp [doneV, hx]) (fun j _ hj => by
    unfold doneV
    by_cases h4 : j < n
    · rw [if_pos h4, if_pos (by omega)]
    · rw [if_neg h4, if_neg (by omega)])⟩
set_option maxRecDepth 20000 in
set_option maxHeartbeats 20000000 in
theorem rtwo_any (a b : Nat → Int) (w : World) : Calls Try.prog 95 #[.agg #[.int .i64 (a 0), .int .i64 (a 1), .int .i64 (a 2), .int .i64 (a 3), .int .i64 (a 4), .int .i64 (a 5), .int .i64 (a 6), .int .i64 (a 7), .int .i64 (a 8), .int .i64 (a 9), .int .i64 (a 10), .int .i64 (a 11)], .agg #[.int .i64 (b 0), .int .i64 (b 1), .int .i64 (b 2), .int .i64 (b 3), .int .i64 (b 4), .int .i64 (b 5), .int .i64 (b 6), .int .i64 (b 7), .int .i64 (b 8), .int .i64 (b 9), .int .i64 (b 10), .int .i64 (b 11)]] w (RetM w (rtwoE a b) (rtwoR a b)) := by
  have hl0 : w.heap.size ≤ w.heap.size + 1 + 1 := by omega
  have ha : RowZ ((w.alloc (.cells #[.int .i64 (a 0), .int .i64 (a 1), .int .i64 (a 2), .int .i64 (a 3), .int .i64 (a 4), .int .i64 (a 5), .int .i64 (a 6), .int .i64 (a 7), .int .i64 (a 8), .int .i64 (a 9), .int .i64 (a 10), .int .i64 (a 11)] 49)).alloc (.cells #[.int .i64 (b 0), .int .i64 (b 1), .int .i64 (b 2), .int .i64 (b 3), .int .i64 (b 4), .int .i64 (b 5), .int .i64 (b 6), .int .i64 (b 7), .int .i64 (b 8), .int .i64 (b 9), .int .i64 (b 10), .int .i64 (b 11)] 49)) w.heap.size 49 12 a := (row12 (Lies.new w #[.int .i64 (a 0), .int .i64 (a 1), .int .i64 (a 2), .int .i64 (a 3), .int .i64 (a 4), .int .i64 (a 5), .int .i64 (a 6), .int .i64 (a 7), .int .i64 (a 8), .int .i64 (a 9), .int .i64 (a 10), .int .i64 (a 11)] 49 _ rfl)).ext ((Ext.refl _).alloc _)
  have hb : RowZ ((w.alloc (.cells #[.int .i64 (a 0), .int .i64 (a 1), .int .i64 (a 2), .int .i64 (a 3), .int .i64 (a 4), .int .i64 (a 5), .int .i64 (a 6), .int .i64 (a 7), .int .i64 (a 8), .int .i64 (a 9), .int .i64 (a 10), .int .i64 (a 11)] 49)).alloc (.cells #[.int .i64 (b 0), .int .i64 (b 1), .int .i64 (b 2), .int .i64 (b 3), .int .i64 (b 4), .int .i64 (b 5), .int .i64 (b 6), .int .i64 (b 7), .int .i64 (b 8), .int .i64 (b 9), .int .i64 (b 10), .int .i64 (b 11)] 49)) (w.heap.size + 1) 49 12 b := row12 (Lies.new _ _ _ (w.heap.size + 1) (by simp))
  have hx0 : Ext w ((w.alloc (.cells #[.int .i64 (a 0), .int .i64 (a 1), .int .i64 (a 2), .int .i64 (a 3), .int .i64 (a 4), .int .i64 (a 5), .int .i64 (a 6), .int .i64 (a 7), .int .i64 (a 8), .int .i64 (a 9), .int .i64 (a 10), .int .i64 (a 11)] 49)).alloc (.cells #[.int .i64 (b 0), .int .i64 (b 1), .int .i64 (b 2), .int .i64 (b 3), .int .i64 (b 4), .int .i64 (b 5), .int .i64 (b 6), .int .i64 (b 7), .int .i64 (b 8), .int .i64 (b 9), .int .i64 (b 10), .int .i64 (b 11)] 49)) := ((Ext.refl _).alloc _).alloc _
  have hs : w.heap.size + 1 + 1 = (((w.alloc (.cells #[.int .i64 (a 0), .int .i64 (a 1), .int .i64 (a 2), .int .i64 (a 3), .int .i64 (a 4), .int .i64 (a 5), .int .i64 (a 6), .int .i64 (a 7), .int .i64 (a 8), .int .i64 (a 9), .int .i64 (a 10), .int .i64 (a 11)] 49)).alloc (.cells #[.int .i64 (b 0), .int .i64 (b 1), .int .i64 (b 2), .int .i64 (b 3), .int .i64 (b 4), .int .i64 (b 5), .int .i64 (b 6), .int .i64 (b 7), .int .i64 (b 8), .int .i64 (b 9), .int .i64 (b 10), .int .i64 (b 11)] 49))).heap.size := by simp
  have HS := Lib.hid hs; have HX := Lib.hid hx0
  have hm : ∀ W', Ext ((w.alloc (.cells #[.int .i64 (a 0), .int .i64 (a 1), .int .i64 (a 2), .int .i64 (a 3), .int .i64 (a 4), .int .i64 (a 5), .int .i64 (a 6), .int .i64 (a 7), .int .i64 (a 8), .int .i64 (a 9), .int .i64 (a 10), .int .i64 (a 11)] 49)).alloc (.cells #[.int .i64 (b 0), .int .i64 (b 1), .int .i64 (b 2), .int .i64 (b 3), .int .i64 (b 4), .int .i64 (b 5), .int .i64 (b 6), .int .i64 (b 7), .int .i64 (b 8), .int .i64 (b 9), .int .i64 (b 10), .int .i64 (b 11)] 49)) W' → ∀ j, j < 12 → W'.cell? ⟨w.heap.size, j, none⟩ = some (.int .i64 (a j)) := fun W' hw j hj => hw.cell (ha.at_ j hj).1
  have hv : ∀ W', Ext ((w.alloc (.cells #[.int .i64 (a 0), .int .i64 (a 1), .int .i64 (a 2), .int .i64 (a 3), .int .i64 (a 4), .int .i64 (a 5), .int .i64 (a 6), .int .i64 (a 7), .int .i64 (a 8), .int .i64 (a 9), .int .i64 (a 10), .int .i64 (a 11)] 49)).alloc (.cells #[.int .i64 (b 0), .int .i64 (b 1), .int .i64 (b 2), .int .i64 (b 3), .int .i64 (b 4), .int .i64 (b 5), .int .i64 (b 6), .int .i64 (b 7), .int .i64 (b 8), .int .i64 (b 9), .int .i64 (b 10), .int .i64 (b 11)] 49)) W' → ∀ j, j < 12 → W'.cell? ⟨w.heap.size + 1, j, none⟩ = some (.int .i64 (b j)) := fun W' hw j hj => hw.cell (hb.at_ j hj).1
  have hr : ∀ W', Ext ((w.alloc (.cells #[.int .i64 (a 0), .int .i64 (a 1), .int .i64 (a 2), .int .i64 (a 3), .int .i64 (a 4), .int .i64 (a 5), .int .i64 (a 6), .int .i64 (a 7), .int .i64 (a 8), .int .i64 (a 9), .int .i64 (a 10), .int .i64 (a 11)] 49)).alloc (.cells #[.int .i64 (b 0), .int .i64 (b 1), .int .i64 (b 2), .int .i64 (b 3), .int .i64 (b 4), .int .i64 (b 5), .int .i64 (b 6), .int .i64 (b 7), .int .i64 (b 8), .int .i64 (b 9), .int .i64 (b 10), .int .i64 (b 11)] 49)) W' → W'.rangeAt w.heap.size 0 [.int .i64 (a 0), .int .i64 (a 1), .int .i64 (a 2), .int .i64 (a 3), .int .i64 (a 4), .int .i64 (a 5), .int .i64 (a 6), .int .i64 (a 7), .int .i64 (a 8), .int .i64 (a 9), .int .i64 (a 10), .int .i64 (a 11)] := fun W' hw => rangeAt_ext ha.range hw
  have HM := Lib.hid hm; have HV := Lib.hid hv; have HRG := Lib.hid hr
  clear hs hx0 ha hb hm hv hr
  have harms : ∀ W o, Ext w W → Ext w (W.alloc o) := fun W o h => h.alloc o
  clear harms
  cases hq : matB a
  · cases hq2 : matB b
    all_goals
      have HN := Lib.hid (rtwo_no (a := a) (b := b) (by simp [rtwoB, hq, hq2]))
      go_enter Try.func95, Try.ntmps95
      go_wp2_with fail
      generalize ((w.alloc (.cells #[.int .i64 (a 0), .int .i64 (a 1), .int .i64 (a 2), .int .i64 (a 3), .int .i64 (a 4), .int .i64 (a 5), .int .i64 (a 6), .int .i64 (a 7), .int .i64 (a 8), .int .i64 (a 9), .int .i64 (a 10), .int .i64 (a 11)] 49)).alloc (.cells #[.int .i64 (b 0), .int .i64 (b 1), .int .i64 (b 2), .int .i64 (b 3), .int .i64 (b 4), .int .i64 (b 5), .int .i64 (b 6), .int .i64 (b 7), .int .i64 (b 8), .int .i64 (b 9), .int .i64 (b 10), .int .i64 (b 11)] 49)) = wp at *
      have hs : MSt w ((wp.alloc (.cells #[.int .i64 0, .int .i64 0, .int .i64 0, .int .i64 0, .int .i64 0, .int .i64 0, .int .i64 0, .int .i64 0, .int .i64 0, .int .i64 0, .int .i64 0, .int .i64 0] 49)).alloc (.cells #[.int .i64 0, .int .i64 0, .int .i64 0, .int .i64 0, .int .i64 0, .int .i64 0, .int .i64 0, .int .i64 0, .int .i64 0, .int .i64 0, .int .i64 0, .int .i64 0] 49)) (w.heap.size + 1 + 1) (w.heap.size + 1 + 1 + 1) zeroM := ⟨(HX.out.alloc _).alloc _, (row12 (v := zeroM) (Lies.new wp #[.int .i64 (zeroM 0), .int .i64 (zeroM 1), .int .i64 (zeroM 2), .int .i64 (zeroM 3), .int .i64 (zeroM 4), .int .i64 (zeroM 5), .int .i64 (zeroM 6), .int .i64 (zeroM 7), .int .i64 (zeroM 8), .int .i64 (zeroM 9), .int .i64 (zeroM 10), .int .i64 (zeroM 11)] _ _ HS.out)).ext ((Ext.refl _).alloc _), row12 (v := zeroM) (Lies.new (wp.alloc (.cells #[.int .i64 0, .int .i64 0, .int .i64 0, .int .i64 0, .int .i64 0, .int .i64 0, .int .i64 0, .int .i64 0, .int .i64 0, .int .i64 0, .int .i64 0, .int .i64 0] 49)) #[.int .i64 (zeroM 0), .int .i64 (zeroM 1), .int .i64 (zeroM 2), .int .i64 (zeroM 3), .int .i64 (zeroM 4), .int .i64 (zeroM 5), .int .i64 (zeroM 6), .int .i64 (zeroM 7), .int .i64 (zeroM 8), .int .i64 (zeroM 9), .int .i64 (zeroM 10), .int .i64 (zeroM 11)] _ _ (by simp [HS.out]))⟩
      have HT0 := Lib.hid hs; clear hs
      have hv := HV.out
      generalize hw2 : ((wp.alloc (.cells #[.int .i64 0, .int .i64 0, .int .i64 0, .int .i64 0, .int .i64 0, .int .i64 0, .int .i64 0, .int .i64 0, .int .i64 0, .int .i64 0, .int .i64 0, .int .i64 0] 49)).alloc (.cells #[.int .i64 0, .int .i64 0, .int .i64 0, .int .i64 0, .int .i64 0, .int .i64 0, .int .i64 0, .int .i64 0, .int .i64 0, .int .i64 0, .int .i64 0, .int .i64 0] 49)) = w2 at *
      have hxw : Ext wp w2 := by rw [← hw2]; exact ((Ext.refl _).alloc _).alloc _
      clear hw2
      go_wp2_with (first
        | (go_at_call 31; (with_reducible refine (rmright_any a _).mono ?_); rintro e w3 ⟨rfl, hx1⟩; have hx2 : Ext wp w3 := hxw.trans hx1)
        | (go_at_call 31; (with_reducible refine (rmright_any b _).mono ?_); rintro e w4 ⟨rfl, hx3⟩; have hx5 : Ext w2 w4 := hx1.trans hx3; have hx4 : Ext wp w4 := hxw.trans hx5; have hk_ := fun i v hv => ((HT0.out.next hx5).res.lies).at_ i v hv; obtain ⟨g0, gf0⟩ := hk_ 0 _ rfl; obtain ⟨g1, gf1⟩ := hk_ 1 _ rfl; obtain ⟨g2, gf2⟩ := hk_ 2 _ rfl; obtain ⟨g3, gf3⟩ := hk_ 3 _ rfl; obtain ⟨g4, gf4⟩ := hk_ 4 _ rfl; obtain ⟨g5, gf5⟩ := hk_ 5 _ rfl; obtain ⟨g6, gf6⟩ := hk_ 6 _ rfl; obtain ⟨g7, gf7⟩ := hk_ 7 _ rfl; obtain ⟨g8, gf8⟩ := hk_ 8 _ rfl; obtain ⟨g9, gf9⟩ := hk_ 9 _ rfl; obtain ⟨g10, gf10⟩ := hk_ 10 _ rfl; obtain ⟨g11, gf11⟩ := hk_ 11 _ rfl; clear hk_; have hk_ := fun i v hv => ((HT0.out.next hx5).row.lies).at_ i v hv; have o0 := (hk_ 0 _ rfl).1; have o1 := (hk_ 1 _ rfl).1; have o2 := (hk_ 2 _ rfl).1; have o3 := (hk_ 3 _ rfl).1; have o4 := (hk_ 4 _ rfl).1; have o5 := (hk_ 5 _ rfl).1; have o6 := (hk_ 6 _ rfl).1; have o7 := (hk_ 7 _ rfl).1; have o8 := (hk_ 8 _ rfl).1; have o9 := (hk_ 9 _ rfl).1; have o10 := (hk_ 10 _ rfl).1; have o11 := (hk_ 11 _ rfl).1; clear hk_))
      clear g0 g1 g2 g3 g4 g5 g6 g7 g8 g9 g10 g11 gf0 gf1 gf2 gf3 gf4 gf5 gf6 gf7 gf8 gf9 gf10 gf11
      clear o0 o1 o2 o3 o4 o5 o6 o7 o8 o9 o10 o11
      have HZ := Lib.hid (show RowZ ((((((((((((w4.setCell ⟨(w.heap.size + 1 + 1), 0, none⟩ (.int .i64 (zeroM 0))).setCell ⟨(w.heap.size + 1 + 1), 1, none⟩ (.int .i64 (zeroM 1))).setCell ⟨(w.heap.size + 1 + 1), 2, none⟩ (.int .i64 (zeroM 2))).setCell ⟨(w.heap.size + 1 + 1), 3, none⟩ (.int .i64 (zeroM 3))).setCell ⟨(w.heap.size + 1 + 1), 4, none⟩ (.int .i64 (zeroM 4))).setCell ⟨(w.heap.size + 1 + 1), 5, none⟩ (.int .i64 (zeroM 5))).setCell ⟨(w.heap.size + 1 + 1), 6, none⟩ (.int .i64 (zeroM 6))).setCell ⟨(w.heap.size + 1 + 1), 7, none⟩ (.int .i64 (zeroM 7))).setCell ⟨(w.heap.size + 1 + 1), 8, none⟩ (.int .i64 (zeroM 8))).setCell ⟨(w.heap.size + 1 + 1), 9, none⟩ (.int .i64 (zeroM 9))).setCell ⟨(w.heap.size + 1 + 1), 10, none⟩ (.int .i64 (zeroM 10))).setCell ⟨(w.heap.size + 1 + 1), 11, none⟩ (.int .i64 (zeroM 11))) (w.heap.size + 1 + 1) 49 12 zeroM from RowZ.all12 (HT0.out.next hx5).res zeroM)
      have HXZ := Lib.hid (show Ext _ ((((((((((((w4.setCell ⟨(w.heap.size + 1 + 1), 0, none⟩ (.int .i64 (zeroM 0))).setCell ⟨(w.heap.size + 1 + 1), 1, none⟩ (.int .i64 (zeroM 1))).setCell ⟨(w.heap.size + 1 + 1), 2, none⟩ (.int .i64 (zeroM 2))).setCell ⟨(w.heap.size + 1 + 1), 3, none⟩ (.int .i64 (zeroM 3))).setCell ⟨(w.heap.size + 1 + 1), 4, none⟩ (.int .i64 (zeroM 4))).setCell ⟨(w.heap.size + 1 + 1), 5, none⟩ (.int .i64 (zeroM 5))).setCell ⟨(w.heap.size + 1 + 1), 6, none⟩ (.int .i64 (zeroM 6))).setCell ⟨(w.heap.size + 1 + 1), 7, none⟩ (.int .i64 (zeroM 7))).setCell ⟨(w.heap.size + 1 + 1), 8, none⟩ (.int .i64 (zeroM 8))).setCell ⟨(w.heap.size + 1 + 1), 9, none⟩ (.int .i64 (zeroM 9))).setCell ⟨(w.heap.size + 1 + 1), 10, none⟩ (.int .i64 (zeroM 10))).setCell ⟨(w.heap.size + 1 + 1), 11, none⟩ (.int .i64 (zeroM 11))) from ext12 (HT0.out.next hx5).ext hl0 _ _ _ _ _ _ _ _ _ _ _ _)
      generalize ((((((((((((w4.setCell ⟨(w.heap.size + 1 + 1), 0, none⟩ (.int .i64 (zeroM 0))).setCell ⟨(w.heap.size + 1 + 1), 1, none⟩ (.int .i64 (zeroM 1))).setCell ⟨(w.heap.size + 1 + 1), 2, none⟩ (.int .i64 (zeroM 2))).setCell ⟨(w.heap.size + 1 + 1), 3, none⟩ (.int .i64 (zeroM 3))).setCell ⟨(w.heap.size + 1 + 1), 4, none⟩ (.int .i64 (zeroM 4))).setCell ⟨(w.heap.size + 1 + 1), 5, none⟩ (.int .i64 (zeroM 5))).setCell ⟨(w.heap.size + 1 + 1), 6, none⟩ (.int .i64 (zeroM 6))).setCell ⟨(w.heap.size + 1 + 1), 7, none⟩ (.int .i64 (zeroM 7))).setCell ⟨(w.heap.size + 1 + 1), 8, none⟩ (.int .i64 (zeroM 8))).setCell ⟨(w.heap.size + 1 + 1), 9, none⟩ (.int .i64 (zeroM 9))).setCell ⟨(w.heap.size + 1 + 1), 10, none⟩ (.int .i64 (zeroM 10))).setCell ⟨(w.heap.size + 1 + 1), 11, none⟩ (.int .i64 (zeroM 11))) = wz at *
      have k0 : wz.cell? ⟨(w.heap.size + 1 + 1), 0, none⟩ = some (.int .i64 (zeroM 0)) := (HZ.out.at_ 0 (by decide)).1
      have k1 : wz.cell? ⟨(w.heap.size + 1 + 1), 1, none⟩ = some (.int .i64 (zeroM 1)) := (HZ.out.at_ 1 (by decide)).1
      have k2 : wz.cell? ⟨(w.heap.size + 1 + 1), 2, none⟩ = some (.int .i64 (zeroM 2)) := (HZ.out.at_ 2 (by decide)).1
      have k3 : wz.cell? ⟨(w.heap.size + 1 + 1), 3, none⟩ = some (.int .i64 (zeroM 3)) := (HZ.out.at_ 3 (by decide)).1
      have k4 : wz.cell? ⟨(w.heap.size + 1 + 1), 4, none⟩ = some (.int .i64 (zeroM 4)) := (HZ.out.at_ 4 (by decide)).1
      have k5 : wz.cell? ⟨(w.heap.size + 1 + 1), 5, none⟩ = some (.int .i64 (zeroM 5)) := (HZ.out.at_ 5 (by decide)).1
      have k6 : wz.cell? ⟨(w.heap.size + 1 + 1), 6, none⟩ = some (.int .i64 (zeroM 6)) := (HZ.out.at_ 6 (by decide)).1
      have k7 : wz.cell? ⟨(w.heap.size + 1 + 1), 7, none⟩ = some (.int .i64 (zeroM 7)) := (HZ.out.at_ 7 (by decide)).1
      have k8 : wz.cell? ⟨(w.heap.size + 1 + 1), 8, none⟩ = some (.int .i64 (zeroM 8)) := (HZ.out.at_ 8 (by decide)).1
      have k9 : wz.cell? ⟨(w.heap.size + 1 + 1), 9, none⟩ = some (.int .i64 (zeroM 9)) := (HZ.out.at_ 9 (by decide)).1
      have k10 : wz.cell? ⟨(w.heap.size + 1 + 1), 10, none⟩ = some (.int .i64 (zeroM 10)) := (HZ.out.at_ 10 (by decide)).1
      have k11 : wz.cell? ⟨(w.heap.size + 1 + 1), 11, none⟩ = some (.int .i64 (zeroM 11)) := (HZ.out.at_ 11 (by decide)).1
      refine bodyPost_ret (v := .tuple #[.agg #[.int .i64 (zeroM 0), .int .i64 (zeroM 1), .int .i64 (zeroM 2), .int .i64 (zeroM 3), .int .i64 (zeroM 4), .int .i64 (zeroM 5), .int .i64 (zeroM 6), .int .i64 (zeroM 7), .int .i64 (zeroM 8), .int .i64 (zeroM 9), .int .i64 (zeroM 10), .int .i64 (zeroM 11)], .int .i64 1]) (by simp [results, Try.results95, go_sem, k0, k1, k2, k3, k4, k5, k6, k7, k8, k9, k10, k11]) rfl ⟨?_, HXZ.out⟩
      (simp only [HN.out.1, HN.out.2]; rfl)
  cases hq2 : matB b
  · have HN0 : True := trivial
    have HN := Lib.hid (rtwo_no (a := a) (b := b) (by simp [rtwoB, hq, hq2]))
    go_enter Try.func95, Try.ntmps95
    go_wp2_with fail
    generalize ((w.alloc (.cells #[.int .i64 (a 0), .int .i64 (a 1), .int .i64 (a 2), .int .i64 (a 3), .int .i64 (a 4), .int .i64 (a 5), .int .i64 (a 6), .int .i64 (a 7), .int .i64 (a 8), .int .i64 (a 9), .int .i64 (a 10), .int .i64 (a 11)] 49)).alloc (.cells #[.int .i64 (b 0), .int .i64 (b 1), .int .i64 (b 2), .int .i64 (b 3), .int .i64 (b 4), .int .i64 (b 5), .int .i64 (b 6), .int .i64 (b 7), .int .i64 (b 8), .int .i64 (b 9), .int .i64 (b 10), .int .i64 (b 11)] 49)) = wp at *
    have hs : MSt w ((wp.alloc (.cells #[.int .i64 0, .int .i64 0, .int .i64 0, .int .i64 0, .int .i64 0, .int .i64 0, .int .i64 0, .int .i64 0, .int .i64 0, .int .i64 0, .int .i64 0, .int .i64 0] 49)).alloc (.cells #[.int .i64 0, .int .i64 0, .int .i64 0, .int .i64 0, .int .i64 0, .int .i64 0, .int .i64 0, .int .i64 0, .int .i64 0, .int .i64 0, .int .i64 0, .int .i64 0] 49)) (w.heap.size + 1 + 1) (w.heap.size + 1 + 1 + 1) zeroM := ⟨(HX.out.alloc _).alloc _, (row12 (v := zeroM) (Lies.new wp #[.int .i64 (zeroM 0), .int .i64 (zeroM 1), .int .i64 (zeroM 2), .int .i64 (zeroM 3), .int .i64 (zeroM 4), .int .i64 (zeroM 5), .int .i64 (zeroM 6), .int .i64 (zeroM 7), .int .i64 (zeroM 8), .int .i64 (zeroM 9), .int .i64 (zeroM 10), .int .i64 (zeroM 11)] _ _ HS.out)).ext ((Ext.refl _).alloc _), row12 (v := zeroM) (Lies.new (wp.alloc (.cells #[.int .i64 0, .int .i64 0, .int .i64 0, .int .i64 0, .int .i64 0, .int .i64 0, .int .i64 0, .int .i64 0, .int .i64 0, .int .i64 0, .int .i64 0, .int .i64 0] 49)) #[.int .i64 (zeroM 0), .int .i64 (zeroM 1), .int .i64 (zeroM 2), .int .i64 (zeroM 3), .int .i64 (zeroM 4), .int .i64 (zeroM 5), .int .i64 (zeroM 6), .int .i64 (zeroM 7), .int .i64 (zeroM 8), .int .i64 (zeroM 9), .int .i64 (zeroM 10), .int .i64 (zeroM 11)] _ _ (by simp [HS.out]))⟩
    have HT0 := Lib.hid hs; clear hs
    have hv := HV.out
    generalize hw2 : ((wp.alloc (.cells #[.int .i64 0, .int .i64 0, .int .i64 0, .int .i64 0, .int .i64 0, .int .i64 0, .int .i64 0, .int .i64 0, .int .i64 0, .int .i64 0, .int .i64 0, .int .i64 0] 49)).alloc (.cells #[.int .i64 0, .int .i64 0, .int .i64 0, .int .i64 0, .int .i64 0, .int .i64 0, .int .i64 0, .int .i64 0, .int .i64 0, .int .i64 0, .int .i64 0, .int .i64 0] 49)) = w2 at *
    have hxw : Ext wp w2 := by rw [← hw2]; exact ((Ext.refl _).alloc _).alloc _
    clear hw2
    go_wp2_with (first
      | (go_at_call 31; (with_reducible refine (rmright_any a _).mono ?_); rintro e w3 ⟨rfl, hx1⟩; have hx2 : Ext wp w3 := hxw.trans hx1)
      | (go_at_call 31; (with_reducible refine (rmright_any b _).mono ?_); rintro e w4 ⟨rfl, hx3⟩; have hx5 : Ext w2 w4 := hx1.trans hx3; have hx4 : Ext wp w4 := hxw.trans hx5; have hk_ := fun i v hv => ((HT0.out.next hx5).res.lies).at_ i v hv; obtain ⟨g0, gf0⟩ := hk_ 0 _ rfl; obtain ⟨g1, gf1⟩ := hk_ 1 _ rfl; obtain ⟨g2, gf2⟩ := hk_ 2 _ rfl; obtain ⟨g3, gf3⟩ := hk_ 3 _ rfl; obtain ⟨g4, gf4⟩ := hk_ 4 _ rfl; obtain ⟨g5, gf5⟩ := hk_ 5 _ rfl; obtain ⟨g6, gf6⟩ := hk_ 6 _ rfl; obtain ⟨g7, gf7⟩ := hk_ 7 _ rfl; obtain ⟨g8, gf8⟩ := hk_ 8 _ rfl; obtain ⟨g9, gf9⟩ := hk_ 9 _ rfl; obtain ⟨g10, gf10⟩ := hk_ 10 _ rfl; obtain ⟨g11, gf11⟩ := hk_ 11 _ rfl; clear hk_; have hk_ := fun i v hv => ((HT0.out.next hx5).row.lies).at_ i v hv; have o0 := (hk_ 0 _ rfl).1; have o1 := (hk_ 1 _ rfl).1; have o2 := (hk_ 2 _ rfl).1; have o3 := (hk_ 3 _ rfl).1; have o4 := (hk_ 4 _ rfl).1; have o5 := (hk_ 5 _ rfl).1; have o6 := (hk_ 6 _ rfl).1; have o7 := (hk_ 7 _ rfl).1; have o8 := (hk_ 8 _ rfl).1; have o9 := (hk_ 9 _ rfl).1; have o10 := (hk_ 10 _ rfl).1; have o11 := (hk_ 11 _ rfl).1; clear hk_))
    clear g0 g1 g2 g3 g4 g5 g6 g7 g8 g9 g10 g11 gf0 gf1 gf2 gf3 gf4 gf5 gf6 gf7 gf8 gf9 gf10 gf11
    clear o0 o1 o2 o3 o4 o5 o6 o7 o8 o9 o10 o11
    have HZ := Lib.hid (show RowZ ((((((((((((w4.setCell ⟨(w.heap.size + 1 + 1), 0, none⟩ (.int .i64 (zeroM 0))).setCell ⟨(w.heap.size + 1 + 1), 1, none⟩ (.int .i64 (zeroM 1))).setCell ⟨(w.heap.size + 1 + 1), 2, none⟩ (.int .i64 (zeroM 2))).setCell ⟨(w.heap.size + 1 + 1), 3, none⟩ (.int .i64 (zeroM 3))).setCell ⟨(w.heap.size + 1 + 1), 4, none⟩ (.int .i64 (zeroM 4))).setCell ⟨(w.heap.size + 1 + 1), 5, none⟩ (.int .i64 (zeroM 5))).setCell ⟨(w.heap.size + 1 + 1), 6, none⟩ (.int .i64 (zeroM 6))).setCell ⟨(w.heap.size + 1 + 1), 7, none⟩ (.int .i64 (zeroM 7))).setCell ⟨(w.heap.size + 1 + 1), 8, none⟩ (.int .i64 (zeroM 8))).setCell ⟨(w.heap.size + 1 + 1), 9, none⟩ (.int .i64 (zeroM 9))).setCell ⟨(w.heap.size + 1 + 1), 10, none⟩ (.int .i64 (zeroM 10))).setCell ⟨(w.heap.size + 1 + 1), 11, none⟩ (.int .i64 (zeroM 11))) (w.heap.size + 1 + 1) 49 12 zeroM from RowZ.all12 (HT0.out.next hx5).res zeroM)
    have HXZ := Lib.hid (show Ext _ ((((((((((((w4.setCell ⟨(w.heap.size + 1 + 1), 0, none⟩ (.int .i64 (zeroM 0))).setCell ⟨(w.heap.size + 1 + 1), 1, none⟩ (.int .i64 (zeroM 1))).setCell ⟨(w.heap.size + 1 + 1), 2, none⟩ (.int .i64 (zeroM 2))).setCell ⟨(w.heap.size + 1 + 1), 3, none⟩ (.int .i64 (zeroM 3))).setCell ⟨(w.heap.size + 1 + 1), 4, none⟩ (.int .i64 (zeroM 4))).setCell ⟨(w.heap.size + 1 + 1), 5, none⟩ (.int .i64 (zeroM 5))).setCell ⟨(w.heap.size + 1 + 1), 6, none⟩ (.int .i64 (zeroM 6))).setCell ⟨(w.heap.size + 1 + 1), 7, none⟩ (.int .i64 (zeroM 7))).setCell ⟨(w.heap.size + 1 + 1), 8, none⟩ (.int .i64 (zeroM 8))).setCell ⟨(w.heap.size + 1 + 1), 9, none⟩ (.int .i64 (zeroM 9))).setCell ⟨(w.heap.size + 1 + 1), 10, none⟩ (.int .i64 (zeroM 10))).setCell ⟨(w.heap.size + 1 + 1), 11, none⟩ (.int .i64 (zeroM 11))) from ext12 (HT0.out.next hx5).ext hl0 _ _ _ _ _ _ _ _ _ _ _ _)
    generalize ((((((((((((w4.setCell ⟨(w.heap.size + 1 + 1), 0, none⟩ (.int .i64 (zeroM 0))).setCell ⟨(w.heap.size + 1 + 1), 1, none⟩ (.int .i64 (zeroM 1))).setCell ⟨(w.heap.size + 1 + 1), 2, none⟩ (.int .i64 (zeroM 2))).setCell ⟨(w.heap.size + 1 + 1), 3, none⟩ (.int .i64 (zeroM 3))).setCell ⟨(w.heap.size + 1 + 1), 4, none⟩ (.int .i64 (zeroM 4))).setCell ⟨(w.heap.size + 1 + 1), 5, none⟩ (.int .i64 (zeroM 5))).setCell ⟨(w.heap.size + 1 + 1), 6, none⟩ (.int .i64 (zeroM 6))).setCell ⟨(w.heap.size + 1 + 1), 7, none⟩ (.int .i64 (zeroM 7))).setCell ⟨(w.heap.size + 1 + 1), 8, none⟩ (.int .i64 (zeroM 8))).setCell ⟨(w.heap.size + 1 + 1), 9, none⟩ (.int .i64 (zeroM 9))).setCell ⟨(w.heap.size + 1 + 1), 10, none⟩ (.int .i64 (zeroM 10))).setCell ⟨(w.heap.size + 1 + 1), 11, none⟩ (.int .i64 (zeroM 11))) = wz at *
    have k0 : wz.cell? ⟨(w.heap.size + 1 + 1), 0, none⟩ = some (.int .i64 (zeroM 0)) := (HZ.out.at_ 0 (by decide)).1
    have k1 : wz.cell? ⟨(w.heap.size + 1 + 1), 1, none⟩ = some (.int .i64 (zeroM 1)) := (HZ.out.at_ 1 (by decide)).1
    have k2 : wz.cell? ⟨(w.heap.size + 1 + 1), 2, none⟩ = some (.int .i64 (zeroM 2)) := (HZ.out.at_ 2 (by decide)).1
    have k3 : wz.cell? ⟨(w.heap.size + 1 + 1), 3, none⟩ = some (.int .i64 (zeroM 3)) := (HZ.out.at_ 3 (by decide)).1
    have k4 : wz.cell? ⟨(w.heap.size + 1 + 1), 4, none⟩ = some (.int .i64 (zeroM 4)) := (HZ.out.at_ 4 (by decide)).1
    have k5 : wz.cell? ⟨(w.heap.size + 1 + 1), 5, none⟩ = some (.int .i64 (zeroM 5)) := (HZ.out.at_ 5 (by decide)).1
    have k6 : wz.cell? ⟨(w.heap.size + 1 + 1), 6, none⟩ = some (.int .i64 (zeroM 6)) := (HZ.out.at_ 6 (by decide)).1
    have k7 : wz.cell? ⟨(w.heap.size + 1 + 1), 7, none⟩ = some (.int .i64 (zeroM 7)) := (HZ.out.at_ 7 (by decide)).1
    have k8 : wz.cell? ⟨(w.heap.size + 1 + 1), 8, none⟩ = some (.int .i64 (zeroM 8)) := (HZ.out.at_ 8 (by decide)).1
    have k9 : wz.cell? ⟨(w.heap.size + 1 + 1), 9, none⟩ = some (.int .i64 (zeroM 9)) := (HZ.out.at_ 9 (by decide)).1
    have k10 : wz.cell? ⟨(w.heap.size + 1 + 1), 10, none⟩ = some (.int .i64 (zeroM 10)) := (HZ.out.at_ 10 (by decide)).1
    have k11 : wz.cell? ⟨(w.heap.size + 1 + 1), 11, none⟩ = some (.int .i64 (zeroM 11)) := (HZ.out.at_ 11 (by decide)).1
    refine bodyPost_ret (v := .tuple #[.agg #[.int .i64 (zeroM 0), .int .i64 (zeroM 1), .int .i64 (zeroM 2), .int .i64 (zeroM 3), .int .i64 (zeroM 4), .int .i64 (zeroM 5), .int .i64 (zeroM 6), .int .i64 (zeroM 7), .int .i64 (zeroM 8), .int .i64 (zeroM 9), .int .i64 (zeroM 10), .int .i64 (zeroM 11)], .int .i64 1]) (by simp [results, Try.results95, go_sem, k0, k1, k2, k3, k4, k5, k6, k7, k8, k9, k10, k11]) rfl ⟨?_, HXZ.out⟩
    (simp only [HN.out.1, HN.out.2]; rfl)
  have HB := Lib.hid (show rtwoB a b = true by simp [rtwoB, hq, hq2])
  go_enter Try.func95, Try.ntmps95
  go_wp2_with fail
  generalize ((w.alloc (.cells #[.int .i64 (a 0), .int .i64 (a 1), .int .i64 (a 2), .int .i64 (a 3), .int .i64 (a 4), .int .i64 (a 5), .int .i64 (a 6), .int .i64 (a 7), .int .i64 (a 8), .int .i64 (a 9), .int .i64 (a 10), .int .i64 (a 11)] 49)).alloc (.cells #[.int .i64 (b 0), .int .i64 (b 1), .int .i64 (b 2), .int .i64 (b 3), .int .i64 (b 4), .int .i64 (b 5), .int .i64 (b 6), .int .i64 (b 7), .int .i64 (b 8), .int .i64 (b 9), .int .i64 (b 10), .int .i64 (b 11)] 49)) = wp at *
  have hs : MSt w ((wp.alloc (.cells #[.int .i64 0, .int .i64 0, .int .i64 0, .int .i64 0, .int .i64 0, .int .i64 0, .int .i64 0, .int .i64 0, .int .i64 0, .int .i64 0, .int .i64 0, .int .i64 0] 49)).alloc (.cells #[.int .i64 0, .int .i64 0, .int .i64 0, .int .i64 0, .int .i64 0, .int .i64 0, .int .i64 0, .int .i64 0, .int .i64 0, .int .i64 0, .int .i64 0, .int .i64 0] 49)) (w.heap.size + 1 + 1) (w.heap.size + 1 + 1 + 1) zeroM := ⟨(HX.out.alloc _).alloc _, (row12 (v := zeroM) (Lies.new wp #[.int .i64 (zeroM 0), .int .i64 (zeroM 1), .int .i64 (zeroM 2), .int .i64 (zeroM 3), .int .i64 (zeroM 4), .int .i64 (zeroM 5), .int .i64 (zeroM 6), .int .i64 (zeroM 7), .int .i64 (zeroM 8), .int .i64 (zeroM 9), .int .i64 (zeroM 10), .int .i64 (zeroM 11)] _ _ HS.out)).ext ((Ext.refl _).alloc _), row12 (v := zeroM) (Lies.new (wp.alloc (.cells #[.int .i64 0, .int .i64 0, .int .i64 0, .int .i64 0, .int .i64 0, .int .i64 0, .int .i64 0, .int .i64 0, .int .i64 0, .int .i64 0, .int .i64 0, .int .i64 0] 49)) #[.int .i64 (zeroM 0), .int .i64 (zeroM 1), .int .i64 (zeroM 2), .int .i64 (zeroM 3), .int .i64 (zeroM 4), .int .i64 (zeroM 5), .int .i64 (zeroM 6), .int .i64 (zeroM 7), .int .i64 (zeroM 8), .int .i64 (zeroM 9), .int .i64 (zeroM 10), .int .i64 (zeroM 11)] _ _ (by simp [HS.out]))⟩
  have HT0 := Lib.hid hs; clear hs
  have hv := HV.out
  generalize hw2 : ((wp.alloc (.cells #[.int .i64 0, .int .i64 0, .int .i64 0, .int .i64 0, .int .i64 0, .int .i64 0, .int .i64 0, .int .i64 0, .int .i64 0, .int .i64 0, .int .i64 0, .int .i64 0] 49)).alloc (.cells #[.int .i64 0, .int .i64 0, .int .i64 0, .int .i64 0, .int .i64 0, .int .i64 0, .int .i64 0, .int .i64 0, .int .i64 0, .int .i64 0, .int .i64 0, .int .i64 0] 49)) = w2 at *
  have hxw : Ext wp w2 := by rw [← hw2]; exact ((Ext.refl _).alloc _).alloc _
  clear hw2
  go_wp2_with (first
    | (go_at_call 31; (with_reducible refine (rmright_any a _).mono ?_); rintro e w3 ⟨rfl, hx1⟩; have hx2 : Ext wp w3 := hxw.trans hx1)
    | (go_at_call 31; (with_reducible refine (rmright_any b _).mono ?_); rintro e w4 ⟨rfl, hx3⟩; have hx5 : Ext w2 w4 := hx1.trans hx3; have hx4 : Ext wp w4 := hxw.trans hx5))
  have hgo : (w.heap.size + 1 + 1 + 1) < w4.heap.size := by have h1 := hx5.size; have h2 := HT0.out.row; obtain ⟨cs, h3, _⟩ := h2.out; have := h3.lt; omega
  have hl1 : w.heap.size ≤ (w.heap.size + 1 + 1 + 1) := by omega
  have hl2 : wp.heap.size ≤ (w.heap.size + 1 + 1 + 1) := by have := HS.out; omega
  have hs : MSt w w4 (w.heap.size + 1 + 1) (w.heap.size + 1 + 1 + 1) (doneV (entsR a b) (4 * 0)) := ⟨(HT0.out.next hx5).ext, (HT0.out.next hx5).res, (HT0.out.next hx5).row⟩
  have HT1 := Lib.hid hs; have HE1 := Lib.hid hx4
  clear hs hx1 hx2 hx3 hx4 hx5 hv hxw HT0
  have u1 := Try.underlying49
  have u2 : (Try.prog.info? 49).map (·.size) = some (List.length (α := Value) [.int .i64 (a 0), .int .i64 (a 1), .int .i64 (a 2), .int .i64 (a 3), .int .i64 (a 4), .int .i64 (a 5), .int .i64 (a 6), .int .i64 (a 7), .int .i64 (a 8), .int .i64 (a 9), .int .i64 (a 10), .int .i64 (a 11)]) := by kernel_rfl
  have U1 := Lib.hid u1; have U2 := Lib.hid u2; clear u1 u2
  go_loopw [5, 9, 10, 11, 12, 13] (fun _ i _ _ _ _ wr => ∃ r : Nat, r ≤ 3 ∧ i = .int .i64 r ∧ firstE (entsE a b) (4 * r) = 0 ∧ MSt w wr (w.heap.size + 1 + 1) (w.heap.size + 1 + 1 + 1) (doneV (entsR a b) (4 * r)) ∧ Ext wp wr) (fun _ i _ _ _ _ _ => 3 - (intOf i).toNat)
  case atStart => exact ⟨0, by omega, rfl, rfl, HT1.out, HE1.out⟩
  case round =>
    obtain ⟨r, hr, rfl, hf, ht, hxp⟩ := hrel
    obtain ⟨wo, rfl⟩ : ∃ wo : World, wo = wr := ⟨_, rfl⟩
    have HF := Lib.hid hf; have HT := Lib.hid ht; have HXO := Lib.hid hxp; clear hf ht hxp
    by_cases hr3 : r < 3
    · have hr3d : decide ((r : Int) < 3) = true := decide_eq_true (by omega)
      go_wp2
      go_loopw [5, 10, 11, 12, 13] (fun _ i _ _ _ wr => ∃ k : Nat, k ≤ 4 ∧ i = .int .i64 k ∧ firstE (entsE a b) (4 * r + k) = 0 ∧ MSt w wr (w.heap.size + 1 + 1) (w.heap.size + 1 + 1 + 1) (doneV (entsR a b) (4 * r + k)) ∧ Ext wp wr) (fun _ i _ _ _ _ => 4 - (intOf i).toNat)
      case atStart => exact ⟨0, by omega, rfl, HF.out, HT.out, HXO.out⟩
      case round =>
        obtain ⟨k, hk, rfl, hf, ht, hxp⟩ := hrel
        have HF2 := Lib.hid hf; have HT2 := Lib.hid ht; have HXP := Lib.hid hxp; clear hf ht hxp
        by_cases hk4 : k < 4
        · have hk4d : decide ((k : Int) < 4) = true := decide_eq_true (by omega)
          have hat := Lib.hid (ents_at a b r k hk4)
          by_cases hk3 : k = 3
          · have hkb : ((k : Int) == 3) = true := by rw [beq_iff_eq]; omega
            have hm := HM.out; have hxp := HXP.out
            have hi3 : 4 * r + 3 < 12 := by omega
            have HMO : Hid (sumR a r (s3 (b k) (b (4 + k)) (b (8 + k))) (a (4 * r + 3)) = entR a b r k ∧ sumE a r (s3 (b k) (b (4 + k)) (b (8 + k))) (a (4 * r + 3)) = entE a b r k) := by
              show _ ∧ _
              unfold entR entE; rw [if_pos hk3]; exact ⟨rfl, rfl⟩
            clear hk3
            go_upto_region 15 with (fail)
            have hv := HV.out; have hrg := HRG.out; have u1 := U1.out; have u2 := U2.out
            have i1 : IntKind.i64.wrap (4 + (k : Int)) = 4 + k := IntWalk.i64_in _ (by omega)
            have i2 : IntKind.i64.wrap (8 + (k : Int)) = 8 + k := IntWalk.i64_in _ (by omega)
            have i3 : (4 + (k : Int)).toNat = 4 + k := by omega
            have i4 : (8 + (k : Int)).toNat = 8 + k := by omega
            have k0 : (0 : Int) ≤ k := by omega
            have k1 : (0 : Int) ≤ 4 + (k : Int) := by omega
            have k2 : (0 : Int) ≤ 8 + (k : Int) := by omega
            have k3 : (k : Int) < 12 := by omega
            have k4 : 4 + (k : Int) < 12 := by omega
            have k5 : 8 + (k : Int) < 12 := by omega
            have k6 : k < 12 := by omega
            have k7 : 4 + k < 12 := by omega
            have k8 : 8 + k < 12 := by omega
            have hrr : Ext wr wr := Ext.refl _
            go_region_held3 (fun w' => Ext wp w' ∧ Ext wr w' ∧ w'.rangeAt w.heap.size 0 [.int .i64 (a 0), .int .i64 (a 1), .int .i64 (a 2), .int .i64 (a 3), .int .i64 (a 4), .int .i64 (a 5), .int .i64 (a 6), .int .i64 (a 7), .int .i64 (a 8), .int .i64 (a 9), .int .i64 (a 10), .int .i64 (a 11)]) (exact ⟨by (repeat (first | exact Ext.refl _ | assumption | (with_reducible refine Ext.alloc ?_ _) | (with_reducible refine Ext.drew ?_) | (with_reducible refine Ext.drewN ?_ _) | (refine Ext.trans ?_ (by assumption)))), by (repeat (first | exact Ext.refl _ | assumption | (with_reducible refine Ext.alloc ?_ _) | (with_reducible refine Ext.drew ?_) | (with_reducible refine Ext.drewN ?_ _) | (refine Ext.trans ?_ (by assumption)))), hrg _ (by (repeat (first | exact Ext.refl _ | assumption | (with_reducible refine Ext.alloc ?_ _) | (with_reducible refine Ext.drew ?_) | (with_reducible refine Ext.drewN ?_ _) | (refine Ext.trans ?_ (by assumption)))))⟩) ((go_at_call 98; (refine (rsum_any a r (s3 (b k) (b (4 + k)) (b (8 + k))) _ _ hr3).mono ?_); rintro e v3 ⟨rfl, hy2⟩))
            have hxr : Ext wr v3 := (by (repeat (first | exact Ext.refl _ | assumption | (with_reducible refine Ext.alloc ?_ _) | (with_reducible refine Ext.drew ?_) | (with_reducible refine Ext.drewN ?_ _) | (refine Ext.trans ?_ (by assumption)))))
            have hxp3 : Ext wp v3 := (by (repeat (first | exact Ext.refl _ | assumption | (with_reducible refine Ext.alloc ?_ _) | (with_reducible refine Ext.drew ?_) | (with_reducible refine Ext.drewN ?_ _) | (refine Ext.trans ?_ (by assumption)))))
            rw [HMO.out.1, HMO.out.2]
            have HT3 := Lib.hid (HT2.out.next hxr); have HXP3 := Lib.hid hxp3
            clear hm hv hrg u1 u2 i1 i2 i3 i4 k0 k1 k2 k3 k4 k5 k6 k7 k8 hxp hrr hy2 hxr hxp3
            by_cases he : entE a b r k = 0
            · have HN1 := Lib.hid (firstE_next HF2.out (by rw [hat.out.2]; exact he))
              have heb : (entE a b r k != 0) = false := by simpa using he
              have ho12 : 4 * r + k < 12 := by omega
              obtain ⟨o1, o2⟩ := HT3.out.row.at_ (4 * r + k) ho12
              clear he
              go_wp2
              go_roundw
              case rel => exact ⟨k + 1, by omega, by go_num, HN1.out, HT3.out.set hl1 (by omega) _ hat.out.1, HXP3.out.set hl2 _⟩
              case measure => simp [intOf]; omega
            · have HE := Lib.hid (rtwo_err HB.out (by omega) HF2.out (by rw [hat.out.2]; exact he))
              have heb : (entE a b r k != 0) = true := by simpa using he
              have hk_ := fun i v hv => (HT3.out.res.lies).at_ i v hv; obtain ⟨g0, gf0⟩ := hk_ 0 _ rfl; obtain ⟨g1, gf1⟩ := hk_ 1 _ rfl; obtain ⟨g2, gf2⟩ := hk_ 2 _ rfl; obtain ⟨g3, gf3⟩ := hk_ 3 _ rfl; obtain ⟨g4, gf4⟩ := hk_ 4 _ rfl; obtain ⟨g5, gf5⟩ := hk_ 5 _ rfl; obtain ⟨g6, gf6⟩ := hk_ 6 _ rfl; obtain ⟨g7, gf7⟩ := hk_ 7 _ rfl; obtain ⟨g8, gf8⟩ := hk_ 8 _ rfl; obtain ⟨g9, gf9⟩ := hk_ 9 _ rfl; obtain ⟨g10, gf10⟩ := hk_ 10 _ rfl; obtain ⟨g11, gf11⟩ := hk_ 11 _ rfl; clear hk_
              clear he
              go_wp2
              clear g0 g1 g2 g3 g4 g5 g6 g7 g8 g9 g10 g11 gf0 gf1 gf2 gf3 gf4 gf5 gf6 gf7 gf8 gf9 gf10 gf11
              have HZ := Lib.hid (show RowZ ((((((((((((v3.setCell ⟨(w.heap.size + 1 + 1), 0, none⟩ (.int .i64 0)).setCell ⟨(w.heap.size + 1 + 1), 1, none⟩ (.int .i64 0)).setCell ⟨(w.heap.size + 1 + 1), 2, none⟩ (.int .i64 0)).setCell ⟨(w.heap.size + 1 + 1), 3, none⟩ (.int .i64 0)).setCell ⟨(w.heap.size + 1 + 1), 4, none⟩ (.int .i64 0)).setCell ⟨(w.heap.size + 1 + 1), 5, none⟩ (.int .i64 0)).setCell ⟨(w.heap.size + 1 + 1), 6, none⟩ (.int .i64 0)).setCell ⟨(w.heap.size + 1 + 1), 7, none⟩ (.int .i64 0)).setCell ⟨(w.heap.size + 1 + 1), 8, none⟩ (.int .i64 0)).setCell ⟨(w.heap.size + 1 + 1), 9, none⟩ (.int .i64 0)).setCell ⟨(w.heap.size + 1 + 1), 10, none⟩ (.int .i64 0)).setCell ⟨(w.heap.size + 1 + 1), 11, none⟩ (.int .i64 0)) (w.heap.size + 1 + 1) 49 12 zeroM from RowZ.all12 HT3.out.res zeroM)
              have HXZ := Lib.hid (show Ext _ ((((((((((((v3.setCell ⟨(w.heap.size + 1 + 1), 0, none⟩ (.int .i64 0)).setCell ⟨(w.heap.size + 1 + 1), 1, none⟩ (.int .i64 0)).setCell ⟨(w.heap.size + 1 + 1), 2, none⟩ (.int .i64 0)).setCell ⟨(w.heap.size + 1 + 1), 3, none⟩ (.int .i64 0)).setCell ⟨(w.heap.size + 1 + 1), 4, none⟩ (.int .i64 0)).setCell ⟨(w.heap.size + 1 + 1), 5, none⟩ (.int .i64 0)).setCell ⟨(w.heap.size + 1 + 1), 6, none⟩ (.int .i64 0)).setCell ⟨(w.heap.size + 1 + 1), 7, none⟩ (.int .i64 0)).setCell ⟨(w.heap.size + 1 + 1), 8, none⟩ (.int .i64 0)).setCell ⟨(w.heap.size + 1 + 1), 9, none⟩ (.int .i64 0)).setCell ⟨(w.heap.size + 1 + 1), 10, none⟩ (.int .i64 0)).setCell ⟨(w.heap.size + 1 + 1), 11, none⟩ (.int .i64 0)) from ext12 HT3.out.ext hl0 _ _ _ _ _ _ _ _ _ _ _ _)
              generalize ((((((((((((v3.setCell ⟨(w.heap.size + 1 + 1), 0, none⟩ (.int .i64 0)).setCell ⟨(w.heap.size + 1 + 1), 1, none⟩ (.int .i64 0)).setCell ⟨(w.heap.size + 1 + 1), 2, none⟩ (.int .i64 0)).setCell ⟨(w.heap.size + 1 + 1), 3, none⟩ (.int .i64 0)).setCell ⟨(w.heap.size + 1 + 1), 4, none⟩ (.int .i64 0)).setCell ⟨(w.heap.size + 1 + 1), 5, none⟩ (.int .i64 0)).setCell ⟨(w.heap.size + 1 + 1), 6, none⟩ (.int .i64 0)).setCell ⟨(w.heap.size + 1 + 1), 7, none⟩ (.int .i64 0)).setCell ⟨(w.heap.size + 1 + 1), 8, none⟩ (.int .i64 0)).setCell ⟨(w.heap.size + 1 + 1), 9, none⟩ (.int .i64 0)).setCell ⟨(w.heap.size + 1 + 1), 10, none⟩ (.int .i64 0)).setCell ⟨(w.heap.size + 1 + 1), 11, none⟩ (.int .i64 0)) = wz at *
              have k0 : wz.cell? ⟨(w.heap.size + 1 + 1), 0, none⟩ = some (.int .i64 0) := (HZ.out.at_ 0 (by decide)).1
              have k1 : wz.cell? ⟨(w.heap.size + 1 + 1), 1, none⟩ = some (.int .i64 0) := (HZ.out.at_ 1 (by decide)).1
              have k2 : wz.cell? ⟨(w.heap.size + 1 + 1), 2, none⟩ = some (.int .i64 0) := (HZ.out.at_ 2 (by decide)).1
              have k3 : wz.cell? ⟨(w.heap.size + 1 + 1), 3, none⟩ = some (.int .i64 0) := (HZ.out.at_ 3 (by decide)).1
              have k4 : wz.cell? ⟨(w.heap.size + 1 + 1), 4, none⟩ = some (.int .i64 0) := (HZ.out.at_ 4 (by decide)).1
              have k5 : wz.cell? ⟨(w.heap.size + 1 + 1), 5, none⟩ = some (.int .i64 0) := (HZ.out.at_ 5 (by decide)).1
              have k6 : wz.cell? ⟨(w.heap.size + 1 + 1), 6, none⟩ = some (.int .i64 0) := (HZ.out.at_ 6 (by decide)).1
              have k7 : wz.cell? ⟨(w.heap.size + 1 + 1), 7, none⟩ = some (.int .i64 0) := (HZ.out.at_ 7 (by decide)).1
              have k8 : wz.cell? ⟨(w.heap.size + 1 + 1), 8, none⟩ = some (.int .i64 0) := (HZ.out.at_ 8 (by decide)).1
              have k9 : wz.cell? ⟨(w.heap.size + 1 + 1), 9, none⟩ = some (.int .i64 0) := (HZ.out.at_ 9 (by decide)).1
              have k10 : wz.cell? ⟨(w.heap.size + 1 + 1), 10, none⟩ = some (.int .i64 0) := (HZ.out.at_ 10 (by decide)).1
              have k11 : wz.cell? ⟨(w.heap.size + 1 + 1), 11, none⟩ = some (.int .i64 0) := (HZ.out.at_ 11 (by decide)).1
              refine bodyPost_ret (v := .tuple #[.agg #[.int .i64 0, .int .i64 0, .int .i64 0, .int .i64 0, .int .i64 0, .int .i64 0, .int .i64 0, .int .i64 0, .int .i64 0, .int .i64 0, .int .i64 0, .int .i64 0], .int .i64 (entE a b r k)]) (by simp [results, Try.results95, go_sem, k0, k1, k2, k3, k4, k5, k6, k7, k8, k9, k10, k11]) rfl ⟨?_, HXZ.out⟩
              (simp only [HE.out.1, HE.out.2, hat.out.2])
          · have hkb : ((k : Int) == 3) = false := by rw [beq_eq_false_iff_ne]; omega
            have HMO : Hid (sumR a r (s3 (b k) (b (4 + k)) (b (8 + k))) 0 = entR a b r k ∧ sumE a r (s3 (b k) (b (4 + k)) (b (8 + k))) 0 = entE a b r k) := by
              show _ ∧ _
              unfold entR entE; rw [if_neg hk3]; exact ⟨rfl, rfl⟩
            clear hk3
            go_upto_region 15 with (fail)
            have hm := HM.out; have hxp := HXP.out
            have hv := HV.out; have hrg := HRG.out; have u1 := U1.out; have u2 := U2.out
            have i1 : IntKind.i64.wrap (4 + (k : Int)) = 4 + k := IntWalk.i64_in _ (by omega)
            have i2 : IntKind.i64.wrap (8 + (k : Int)) = 8 + k := IntWalk.i64_in _ (by omega)
            have i3 : (4 + (k : Int)).toNat = 4 + k := by omega
            have i4 : (8 + (k : Int)).toNat = 8 + k := by omega
            have k0 : (0 : Int) ≤ k := by omega
            have k1 : (0 : Int) ≤ 4 + (k : Int) := by omega
            have k2 : (0 : Int) ≤ 8 + (k : Int) := by omega
            have k3 : (k : Int) < 12 := by omega
            have k4 : 4 + (k : Int) < 12 := by omega
            have k5 : 8 + (k : Int) < 12 := by omega
            have k6 : k < 12 := by omega
            have k7 : 4 + k < 12 := by omega
            have k8 : 8 + k < 12 := by omega
            have hrr : Ext wr wr := Ext.refl _
            go_region_held3 (fun w' => Ext wp w' ∧ Ext wr w' ∧ w'.rangeAt w.heap.size 0 [.int .i64 (a 0), .int .i64 (a 1), .int .i64 (a 2), .int .i64 (a 3), .int .i64 (a 4), .int .i64 (a 5), .int .i64 (a 6), .int .i64 (a 7), .int .i64 (a 8), .int .i64 (a 9), .int .i64 (a 10), .int .i64 (a 11)]) (exact ⟨by (repeat (first | exact Ext.refl _ | assumption | (with_reducible refine Ext.alloc ?_ _) | (with_reducible refine Ext.drew ?_) | (with_reducible refine Ext.drewN ?_ _) | (refine Ext.trans ?_ (by assumption)))), by (repeat (first | exact Ext.refl _ | assumption | (with_reducible refine Ext.alloc ?_ _) | (with_reducible refine Ext.drew ?_) | (with_reducible refine Ext.drewN ?_ _) | (refine Ext.trans ?_ (by assumption)))), hrg _ (by (repeat (first | exact Ext.refl _ | assumption | (with_reducible refine Ext.alloc ?_ _) | (with_reducible refine Ext.drew ?_) | (with_reducible refine Ext.drewN ?_ _) | (refine Ext.trans ?_ (by assumption)))))⟩) ((go_at_call 98; (refine (rsum_any a r (s3 (b k) (b (4 + k)) (b (8 + k))) _ _ hr3).mono ?_); rintro e v3 ⟨rfl, hy2⟩))
            have hxr : Ext wr v3 := (by (repeat (first | exact Ext.refl _ | assumption | (with_reducible refine Ext.alloc ?_ _) | (with_reducible refine Ext.drew ?_) | (with_reducible refine Ext.drewN ?_ _) | (refine Ext.trans ?_ (by assumption)))))
            have hxp3 : Ext wp v3 := (by (repeat (first | exact Ext.refl _ | assumption | (with_reducible refine Ext.alloc ?_ _) | (with_reducible refine Ext.drew ?_) | (with_reducible refine Ext.drewN ?_ _) | (refine Ext.trans ?_ (by assumption)))))
            rw [HMO.out.1, HMO.out.2]
            have HT3 := Lib.hid (HT2.out.next hxr); have HXP3 := Lib.hid hxp3
            clear hm hv hrg u1 u2 i1 i2 i3 i4 k0 k1 k2 k3 k4 k5 k6 k7 k8 hxp hrr hy2 hxr hxp3
            by_cases he : entE a b r k = 0
            · have HN1 := Lib.hid (firstE_next HF2.out (by rw [hat.out.2]; exact he))
              have heb : (entE a b r k != 0) = false := by simpa using he
              have ho12 : 4 * r + k < 12 := by omega
              obtain ⟨o1, o2⟩ := HT3.out.row.at_ (4 * r + k) ho12
              clear he
              go_wp2
              go_roundw
              case rel => exact ⟨k + 1, by omega, by go_num, HN1.out, HT3.out.set hl1 (by omega) _ hat.out.1, HXP3.out.set hl2 _⟩
              case measure => simp [intOf]; omega
            · have HE := Lib.hid (rtwo_err HB.out (by omega) HF2.out (by rw [hat.out.2]; exact he))
              have heb : (entE a b r k != 0) = true := by simpa using he
              have hk_ := fun i v hv => (HT3.out.res.lies).at_ i v hv; obtain ⟨g0, gf0⟩ := hk_ 0 _ rfl; obtain ⟨g1, gf1⟩ := hk_ 1 _ rfl; obtain ⟨g2, gf2⟩ := hk_ 2 _ rfl; obtain ⟨g3, gf3⟩ := hk_ 3 _ rfl; obtain ⟨g4, gf4⟩ := hk_ 4 _ rfl; obtain ⟨g5, gf5⟩ := hk_ 5 _ rfl; obtain ⟨g6, gf6⟩ := hk_ 6 _ rfl; obtain ⟨g7, gf7⟩ := hk_ 7 _ rfl; obtain ⟨g8, gf8⟩ := hk_ 8 _ rfl; obtain ⟨g9, gf9⟩ := hk_ 9 _ rfl; obtain ⟨g10, gf10⟩ := hk_ 10 _ rfl; obtain ⟨g11, gf11⟩ := hk_ 11 _ rfl; clear hk_
              clear he
              go_wp2
              clear g0 g1 g2 g3 g4 g5 g6 g7 g8 g9 g10 g11 gf0 gf1 gf2 gf3 gf4 gf5 gf6 gf7 gf8 gf9 gf10 gf11
              have HZ := Lib.hid (show RowZ ((((((((((((v3.setCell ⟨(w.heap.size + 1 + 1), 0, none⟩ (.int .i64 0)).setCell ⟨(w.heap.size + 1 + 1), 1, none⟩ (.int .i64 0)).setCell ⟨(w.heap.size + 1 + 1), 2, none⟩ (.int .i64 0)).setCell ⟨(w.heap.size + 1 + 1), 3, none⟩ (.int .i64 0)).setCell ⟨(w.heap.size + 1 + 1), 4, none⟩ (.int .i64 0)).setCell ⟨(w.heap.size + 1 + 1), 5, none⟩ (.int .i64 0)).setCell ⟨(w.heap.size + 1 + 1), 6, none⟩ (.int .i64 0)).setCell ⟨(w.heap.size + 1 + 1), 7, none⟩ (.int .i64 0)).setCell ⟨(w.heap.size + 1 + 1), 8, none⟩ (.int .i64 0)).setCell ⟨(w.heap.size + 1 + 1), 9, none⟩ (.int .i64 0)).setCell ⟨(w.heap.size + 1 + 1), 10, none⟩ (.int .i64 0)).setCell ⟨(w.heap.size + 1 + 1), 11, none⟩ (.int .i64 0)) (w.heap.size + 1 + 1) 49 12 zeroM from RowZ.all12 HT3.out.res zeroM)
              have HXZ := Lib.hid (show Ext _ ((((((((((((v3.setCell ⟨(w.heap.size + 1 + 1), 0, none⟩ (.int .i64 0)).setCell ⟨(w.heap.size + 1 + 1), 1, none⟩ (.int .i64 0)).setCell ⟨(w.heap.size + 1 + 1), 2, none⟩ (.int .i64 0)).setCell ⟨(w.heap.size + 1 + 1), 3, none⟩ (.int .i64 0)).setCell ⟨(w.heap.size + 1 + 1), 4, none⟩ (.int .i64 0)).setCell ⟨(w.heap.size + 1 + 1), 5, none⟩ (.int .i64 0)).setCell ⟨(w.heap.size + 1 + 1), 6, none⟩ (.int .i64 0)).setCell ⟨(w.heap.size + 1 + 1), 7, none⟩ (.int .i64 0)).setCell ⟨(w.heap.size + 1 + 1), 8, none⟩ (.int .i64 0)).setCell ⟨(w.heap.size + 1 + 1), 9, none⟩ (.int .i64 0)).setCell ⟨(w.heap.size + 1 + 1), 10, none⟩ (.int .i64 0)).setCell ⟨(w.heap.size + 1 + 1), 11, none⟩ (.int .i64 0)) from ext12 HT3.out.ext hl0 _ _ _ _ _ _ _ _ _ _ _ _)
              generalize ((((((((((((v3.setCell ⟨(w.heap.size + 1 + 1), 0, none⟩ (.int .i64 0)).setCell ⟨(w.heap.size + 1 + 1), 1, none⟩ (.int .i64 0)).setCell ⟨(w.heap.size + 1 + 1), 2, none⟩ (.int .i64 0)).setCell ⟨(w.heap.size + 1 + 1), 3, none⟩ (.int .i64 0)).setCell ⟨(w.heap.size + 1 + 1), 4, none⟩ (.int .i64 0)).setCell ⟨(w.heap.size + 1 + 1), 5, none⟩ (.int .i64 0)).setCell ⟨(w.heap.size + 1 + 1), 6, none⟩ (.int .i64 0)).setCell ⟨(w.heap.size + 1 + 1), 7, none⟩ (.int .i64 0)).setCell ⟨(w.heap.size + 1 + 1), 8, none⟩ (.int .i64 0)).setCell ⟨(w.heap.size + 1 + 1), 9, none⟩ (.int .i64 0)).setCell ⟨(w.heap.size + 1 + 1), 10, none⟩ (.int .i64 0)).setCell ⟨(w.heap.size + 1 + 1), 11, none⟩ (.int .i64 0)) = wz at *
              have k0 : wz.cell? ⟨(w.heap.size + 1 + 1), 0, none⟩ = some (.int .i64 0) := (HZ.out.at_ 0 (by decide)).1
              have k1 : wz.cell? ⟨(w.heap.size + 1 + 1), 1, none⟩ = some (.int .i64 0) := (HZ.out.at_ 1 (by decide)).1
              have k2 : wz.cell? ⟨(w.heap.size + 1 + 1), 2, none⟩ = some (.int .i64 0) := (HZ.out.at_ 2 (by decide)).1
              have k3 : wz.cell? ⟨(w.heap.size + 1 + 1), 3, none⟩ = some (.int .i64 0) := (HZ.out.at_ 3 (by decide)).1
              have k4 : wz.cell? ⟨(w.heap.size + 1 + 1), 4, none⟩ = some (.int .i64 0) := (HZ.out.at_ 4 (by decide)).1
              have k5 : wz.cell? ⟨(w.heap.size + 1 + 1), 5, none⟩ = some (.int .i64 0) := (HZ.out.at_ 5 (by decide)).1
              have k6 : wz.cell? ⟨(w.heap.size + 1 + 1), 6, none⟩ = some (.int .i64 0) := (HZ.out.at_ 6 (by decide)).1
              have k7 : wz.cell? ⟨(w.heap.size + 1 + 1), 7, none⟩ = some (.int .i64 0) := (HZ.out.at_ 7 (by decide)).1
              have k8 : wz.cell? ⟨(w.heap.size + 1 + 1), 8, none⟩ = some (.int .i64 0) := (HZ.out.at_ 8 (by decide)).1
              have k9 : wz.cell? ⟨(w.heap.size + 1 + 1), 9, none⟩ = some (.int .i64 0) := (HZ.out.at_ 9 (by decide)).1
              have k10 : wz.cell? ⟨(w.heap.size + 1 + 1), 10, none⟩ = some (.int .i64 0) := (HZ.out.at_ 10 (by decide)).1
              have k11 : wz.cell? ⟨(w.heap.size + 1 + 1), 11, none⟩ = some (.int .i64 0) := (HZ.out.at_ 11 (by decide)).1
              refine bodyPost_ret (v := .tuple #[.agg #[.int .i64 0, .int .i64 0, .int .i64 0, .int .i64 0, .int .i64 0, .int .i64 0, .int .i64 0, .int .i64 0, .int .i64 0, .int .i64 0, .int .i64 0, .int .i64 0], .int .i64 (entE a b r k)]) (by simp [results, Try.results95, go_sem, k0, k1, k2, k3, k4, k5, k6, k7, k8, k9, k10, k11]) rfl ⟨?_, HXZ.out⟩
              (simp only [HE.out.1, HE.out.2, hat.out.2])
        · obtain rfl : 4 = k := by omega
          go_wp2
          go_roundw
          case rel => exact ⟨r + 1, by omega, by go_num, HF2.out, HT2.out, HXP.out⟩
          case measure => simp [intOf]; omega
    · obtain rfl : 3 = r := by omega
      have HE := Lib.hid (rtwo_ok HB.out HF.out)
      have hv2 : Hid (∀ j, j < 12 → doneV (entsR a b) (4 * 3) j = rtwoR a b j) := fun j hj => by rw [HE.out.2]; unfold doneV; rw [if_pos (by omega)]
      have hlr : Lies wo (w.heap.size + 1 + 1 + 1) #[.int .i64 ((rtwoR a b) 0), .int .i64 ((rtwoR a b) 1), .int .i64 ((rtwoR a b) 2), .int .i64 ((rtwoR a b) 3), .int .i64 ((rtwoR a b) 4), .int .i64 ((rtwoR a b) 5), .int .i64 ((rtwoR a b) 6), .int .i64 ((rtwoR a b) 7), .int .i64 ((rtwoR a b) 8), .int .i64 ((rtwoR a b) 9), .int .i64 ((rtwoR a b) 10), .int .i64 ((rtwoR a b) 11)] 49 := by
        have h1 := HT.out.row.lies
        rw [hv2.out 0 (by decide), hv2.out 1 (by decide), hv2.out 2 (by decide), hv2.out 3 (by decide), hv2.out 4 (by decide), hv2.out 5 (by decide), hv2.out 6 (by decide), hv2.out 7 (by decide), hv2.out 8 (by decide), hv2.out 9 (by decide), hv2.out 10 (by decide), hv2.out 11 (by decide)] at h1
        exact h1
      have hk_ := fun i v hv => (HT.out.res.lies).at_ i v hv; obtain ⟨g0, gf0⟩ := hk_ 0 _ rfl; obtain ⟨g1, gf1⟩ := hk_ 1 _ rfl; obtain ⟨g2, gf2⟩ := hk_ 2 _ rfl; obtain ⟨g3, gf3⟩ := hk_ 3 _ rfl; obtain ⟨g4, gf4⟩ := hk_ 4 _ rfl; obtain ⟨g5, gf5⟩ := hk_ 5 _ rfl; obtain ⟨g6, gf6⟩ := hk_ 6 _ rfl; obtain ⟨g7, gf7⟩ := hk_ 7 _ rfl; obtain ⟨g8, gf8⟩ := hk_ 8 _ rfl; obtain ⟨g9, gf9⟩ := hk_ 9 _ rfl; obtain ⟨g10, gf10⟩ := hk_ 10 _ rfl; obtain ⟨g11, gf11⟩ := hk_ 11 _ rfl; clear hk_
      have hk_ := fun i v hv => (hlr).at_ i v hv; have o0 := (hk_ 0 _ rfl).1; have o1 := (hk_ 1 _ rfl).1; have o2 := (hk_ 2 _ rfl).1; have o3 := (hk_ 3 _ rfl).1; have o4 := (hk_ 4 _ rfl).1; have o5 := (hk_ 5 _ rfl).1; have o6 := (hk_ 6 _ rfl).1; have o7 := (hk_ 7 _ rfl).1; have o8 := (hk_ 8 _ rfl).1; have o9 := (hk_ 9 _ rfl).1; have o10 := (hk_ 10 _ rfl).1; have o11 := (hk_ 11 _ rfl).1; clear hk_
      clear hlr
      go_wp2
      clear g0 g1 g2 g3 g4 g5 g6 g7 g8 g9 g10 g11 gf0 gf1 gf2 gf3 gf4 gf5 gf6 gf7 gf8 gf9 gf10 gf11 o0 o1 o2 o3 o4 o5 o6 o7 o8 o9 o10 o11
      have HZ := Lib.hid (show RowZ ((((((((((((wo.setCell ⟨(w.heap.size + 1 + 1), 0, none⟩ (.int .i64 ((rtwoR a b) 0))).setCell ⟨(w.heap.size + 1 + 1), 1, none⟩ (.int .i64 ((rtwoR a b) 1))).setCell ⟨(w.heap.size + 1 + 1), 2, none⟩ (.int .i64 ((rtwoR a b) 2))).setCell ⟨(w.heap.size + 1 + 1), 3, none⟩ (.int .i64 ((rtwoR a b) 3))).setCell ⟨(w.heap.size + 1 + 1), 4, none⟩ (.int .i64 ((rtwoR a b) 4))).setCell ⟨(w.heap.size + 1 + 1), 5, none⟩ (.int .i64 ((rtwoR a b) 5))).setCell ⟨(w.heap.size + 1 + 1), 6, none⟩ (.int .i64 ((rtwoR a b) 6))).setCell ⟨(w.heap.size + 1 + 1), 7, none⟩ (.int .i64 ((rtwoR a b) 7))).setCell ⟨(w.heap.size + 1 + 1), 8, none⟩ (.int .i64 ((rtwoR a b) 8))).setCell ⟨(w.heap.size + 1 + 1), 9, none⟩ (.int .i64 ((rtwoR a b) 9))).setCell ⟨(w.heap.size + 1 + 1), 10, none⟩ (.int .i64 ((rtwoR a b) 10))).setCell ⟨(w.heap.size + 1 + 1), 11, none⟩ (.int .i64 ((rtwoR a b) 11))) (w.heap.size + 1 + 1) 49 12 (rtwoR a b) from RowZ.all12 HT.out.res (rtwoR a b))
      have HXZ := Lib.hid (show Ext _ ((((((((((((wo.setCell ⟨(w.heap.size + 1 + 1), 0, none⟩ (.int .i64 ((rtwoR a b) 0))).setCell ⟨(w.heap.size + 1 + 1), 1, none⟩ (.int .i64 ((rtwoR a b) 1))).setCell ⟨(w.heap.size + 1 + 1), 2, none⟩ (.int .i64 ((rtwoR a b) 2))).setCell ⟨(w.heap.size + 1 + 1), 3, none⟩ (.int .i64 ((rtwoR a b) 3))).setCell ⟨(w.heap.size + 1 + 1), 4, none⟩ (.int .i64 ((rtwoR a b) 4))).setCell ⟨(w.heap.size + 1 + 1), 5, none⟩ (.int .i64 ((rtwoR a b) 5))).setCell ⟨(w.heap.size + 1 + 1), 6, none⟩ (.int .i64 ((rtwoR a b) 6))).setCell ⟨(w.heap.size + 1 + 1), 7, none⟩ (.int .i64 ((rtwoR a b) 7))).setCell ⟨(w.heap.size + 1 + 1), 8, none⟩ (.int .i64 ((rtwoR a b) 8))).setCell ⟨(w.heap.size + 1 + 1), 9, none⟩ (.int .i64 ((rtwoR a b) 9))).setCell ⟨(w.heap.size + 1 + 1), 10, none⟩ (.int .i64 ((rtwoR a b) 10))).setCell ⟨(w.heap.size + 1 + 1), 11, none⟩ (.int .i64 ((rtwoR a b) 11))) from ext12 HT.out.ext hl0 _ _ _ _ _ _ _ _ _ _ _ _)
      generalize ((((((((((((wo.setCell ⟨(w.heap.size + 1 + 1), 0, none⟩ (.int .i64 ((rtwoR a b) 0))).setCell ⟨(w.heap.size + 1 + 1), 1, none⟩ (.int .i64 ((rtwoR a b) 1))).setCell ⟨(w.heap.size + 1 + 1), 2, none⟩ (.int .i64 ((rtwoR a b) 2))).setCell ⟨(w.heap.size + 1 + 1), 3, none⟩ (.int .i64 ((rtwoR a b) 3))).setCell ⟨(w.heap.size + 1 + 1), 4, none⟩ (.int .i64 ((rtwoR a b) 4))).setCell ⟨(w.heap.size + 1 + 1), 5, none⟩ (.int .i64 ((rtwoR a b) 5))).setCell ⟨(w.heap.size + 1 + 1), 6, none⟩ (.int .i64 ((rtwoR a b) 6))).setCell ⟨(w.heap.size + 1 + 1), 7, none⟩ (.int .i64 ((rtwoR a b) 7))).setCell ⟨(w.heap.size + 1 + 1), 8, none⟩ (.int .i64 ((rtwoR a b) 8))).setCell ⟨(w.heap.size + 1 + 1), 9, none⟩ (.int .i64 ((rtwoR a b) 9))).setCell ⟨(w.heap.size + 1 + 1), 10, none⟩ (.int .i64 ((rtwoR a b) 10))).setCell ⟨(w.heap.size + 1 + 1), 11, none⟩ (.int .i64 ((rtwoR a b) 11))) = wz at *
      have k0 : wz.cell? ⟨(w.heap.size + 1 + 1), 0, none⟩ = some (.int .i64 ((rtwoR a b) 0)) := (HZ.out.at_ 0 (by decide)).1
      have k1 : wz.cell? ⟨(w.heap.size + 1 + 1), 1, none⟩ = some (.int .i64 ((rtwoR a b) 1)) := (HZ.out.at_ 1 (by decide)).1
      have k2 : wz.cell? ⟨(w.heap.size + 1 + 1), 2, none⟩ = some (.int .i64 ((rtwoR a b) 2)) := (HZ.out.at_ 2 (by decide)).1
      have k3 : wz.cell? ⟨(w.heap.size + 1 + 1), 3, none⟩ = some (.int .i64 ((rtwoR a b) 3)) := (HZ.out.at_ 3 (by decide)).1
      have k4 : wz.cell? ⟨(w.heap.size + 1 + 1), 4, none⟩ = some (.int .i64 ((rtwoR a b) 4)) := (HZ.out.at_ 4 (by decide)).1
      have k5 : wz.cell? ⟨(w.heap.size + 1 + 1), 5, none⟩ = some (.int .i64 ((rtwoR a b) 5)) := (HZ.out.at_ 5 (by decide)).1
      have k6 : wz.cell? ⟨(w.heap.size + 1 + 1), 6, none⟩ = some (.int .i64 ((rtwoR a b) 6)) := (HZ.out.at_ 6 (by decide)).1
      have k7 : wz.cell? ⟨(w.heap.size + 1 + 1), 7, none⟩ = some (.int .i64 ((rtwoR a b) 7)) := (HZ.out.at_ 7 (by decide)).1
      have k8 : wz.cell? ⟨(w.heap.size + 1 + 1), 8, none⟩ = some (.int .i64 ((rtwoR a b) 8)) := (HZ.out.at_ 8 (by decide)).1
      have k9 : wz.cell? ⟨(w.heap.size + 1 + 1), 9, none⟩ = some (.int .i64 ((rtwoR a b) 9)) := (HZ.out.at_ 9 (by decide)).1
      have k10 : wz.cell? ⟨(w.heap.size + 1 + 1), 10, none⟩ = some (.int .i64 ((rtwoR a b) 10)) := (HZ.out.at_ 10 (by decide)).1
      have k11 : wz.cell? ⟨(w.heap.size + 1 + 1), 11, none⟩ = some (.int .i64 ((rtwoR a b) 11)) := (HZ.out.at_ 11 (by decide)).1
      refine bodyPost_ret (v := .tuple #[.agg #[.int .i64 ((rtwoR a b) 0), .int .i64 ((rtwoR a b) 1), .int .i64 ((rtwoR a b) 2), .int .i64 ((rtwoR a b) 3), .int .i64 ((rtwoR a b) 4), .int .i64 ((rtwoR a b) 5), .int .i64 ((rtwoR a b) 6), .int .i64 ((rtwoR a b) 7), .int .i64 ((rtwoR a b) 8), .int .i64 ((rtwoR a b) 9), .int .i64 ((rtwoR a b) 10), .int .i64 ((rtwoR a b) 11)], .int .i64 0]) (by simp [results, Try.results95, go_sem, k0, k1, k2, k3, k4, k5, k6, k7, k8, k9, k10, k11]) rfl ⟨?_, HXZ.out⟩
      (rw [HE.out.1])
end Go.Proofs.Ytmgckodihnmjoaa
