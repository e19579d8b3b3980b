/-
  The package affine: a matrix applied to a vector; walked. Conditions: none.
-/
import Derived.Test.YtmgckodihnmjoaaAff5
import Derived.Test.YtmgckodihnmjoaaRef03c
set_option linter.unusedVariables false
set_option linter.unusedSimpArgs false
namespace Go.Proofs.Ytmgckodihnmjoaa
open Go.RowKit

def appE1 (m v : Nat → Int) (r : Nat) : Int := sumE m r v (m (4 * r + 3))
def appR1 (m v : Nat → Int) (r : Nat) : Int := sumR m r v (m (4 * r + 3))
def appB (m v : Nat → Int) : Bool := matB m && okV (v 0) (v 1) (v 2)
def appE (m v : Nat → Int) : Int := if appB m v then firstE (appE1 m v) 3 else 1
def appR (m v : Nat → Int) (j : Nat) : Int := if appE m v = 0 then appR1 m v j else 0
theorem app_no {m v : Nat → Int} (h : appB m v = false) : appE m v = 1 ∧ ∀ j, appR m v j = 0 := by
  have : appE m v = 1 := by simp [appE, h]
  exact ⟨this, fun j => by unfold appR; rw [this, if_neg (by decide)]⟩
theorem app_err {m v : Nat → Int} (h : appB m v = true) {k : Nat} (hk : k < 3) (hf : firstE (appE1 m v) k = 0) (he : ¬ appE1 m v k = 0) : appE m v = appE1 m v k ∧ ∀ j, appR m v j = 0 := by
  have : appE m v = appE1 m v k := by unfold appE; rw [if_pos h]; exact firstE_hit hf he hk
  exact ⟨this, fun j => by unfold appR; rw [this, if_neg he]⟩
theorem app_ok {m v : Nat → Int} (h : appB m v = true) (hf : firstE (appE1 m v) 3 = 0) : appE m v = 0 ∧ ∀ j, appR m v j = appR1 m v j := by
  have : appE m v = 0 := by unfold appE; rw [if_pos h]; exact hf
  exact ⟨this, fun j => by unfold appR; rw [this, if_pos rfl]⟩
theorem mright_lit1 (m : Nat → Int) (w : World) (t n : Nat) (hn : n = w.heap.size) : Calls Try.prog 36 #[.slice (some ⟨n, 0, none⟩) 1 1] (w.alloc (.cells #[.int .i64 (m 0), .int .i64 (m 1), .int .i64 (m 2), .int .i64 (m 3), .int .i64 (m 4), .int .i64 (m 5), .int .i64 (m 6), .int .i64 (m 7), .int .i64 (m 8), .int .i64 (m 9), .int .i64 (m 10), .int .i64 (m 11)] t)) fun e w' => e = .returned (.bool (matB m)) ∧ Ext (w.alloc (.cells #[.int .i64 (m 0), .int .i64 (m 1), .int .i64 (m 2), .int .i64 (m 3), .int .i64 (m 4), .int .i64 (m 5), .int .i64 (m 6), .int .i64 (m 7), .int .i64 (m 8), .int .i64 (m 9), .int .i64 (m 10), .int .i64 (m 11)] t)) w' := by
  subst hn
  refine (mright_any _ 1 1 (fun _ => m) _ (rdM_new 12 w _ t 1 _ (fun _ => m) rfl (by omega) (fun i j hi hj => ?_))).mono fun e w' ⟨he, hx⟩ => ⟨?_, hx⟩
  · obtain rfl : i = 0 := by omega
    rw [Nat.zero_mul, Nat.zero_add]
    match j, hj with
    | 0, _ => rfl
    | 1, _ => rfl
    | 2, _ => rfl
    | 3, _ => rfl
    | 4, _ => rfl
    | 5, _ => rfl
    | 6, _ => rfl
    | 7, _ => rfl
    | 8, _ => rfl
    | 9, _ => rfl
    | 10, _ => rfl
    | 11, _ => rfl
  · rw [he]; simp [matsB, allN, List.range_succ]
/-- The state: the result's cell, and what has been made so far. -/
structure ASt (w w' : World) (gr go : Nat) (v : Nat → Int) : Prop where
  ext : Ext w w'
  res : RowZ w' gr 24 3 zeroM
  row : RowZ w' go 24 3 v
theorem ASt.next {w w' w2 : World} {gr go : Nat} {v : Nat → Int} (h : ASt w w' gr go v) (hx : Ext w' w2) : ASt w w2 gr go v :=
  ⟨h.ext.trans hx, h.res.ext hx, h.row.ext hx⟩
theorem ASt.set {w w' : World} {gr go : Nat} {V : Nat → Int} {n : Nat} (h : ASt w w' gr go (doneV V n)) (h0 : w.heap.size ≤ go) (h3 : go ≠ gr) (x : Int) (hx : V n = x) : ASt w (w'.setCell ⟨go, n, none⟩ (.int .i64 x)) gr go (doneV V (n + 1)) :=
  ⟨h.ext.set h0 _, h.res.other h3 _ _, h.row.set n x (by simp [doneV, hx]) (fun j _ hj => by
    unfold doneV
    by_cases h4 : j < n
    · rw [if_pos h4, if_pos (by omega)]
    · rw [if_neg h4, if_neg (by omega)])⟩
theorem RowZ.lies3 {w : World} {g e : Nat} {v : Nat → Int} (h : RowZ w g e 3 v) : Lies w g #[.int .i64 (v 0), .int .i64 (v 1), .int .i64 (v 2)] e := by
  obtain ⟨cs, h1, hn, h3⟩ := h.out
  have : cs = #[.int .i64 (v 0), .int .i64 (v 1), .int .i64 (v 2)] := by
    apply Array.ext_getElem?
    intro j
    by_cases hj : j < 3
    · rw [h3 j hj]
      match j, hj with
      | 0, _ => rfl
      | 1, _ => rfl
      | 2, _ => rfl
    · rw [Array.getElem?_eq_none (by omega), Array.getElem?_eq_none (by simpa using hj)]
  rw [← this]; exact h1
theorem rangeAt_ext {w w' : World} {b o : Nat} {cs : List Value} (h : w.rangeAt b o cs) (hx : Ext w w') : w'.rangeAt b o cs := fun j v hv => hx.cell (h j v hv)
def rowL (v : Nat → Int) (n : Nat) : List Value := (List.range n).map fun j => Value.int .i64 (v j)
theorem RowZ.range {w : World} {g e N : Nat} {v : Nat → Int} (h : RowZ w g e N v) : w.rangeAt g 0 (rowL v N) := fun j u hu => by
  unfold rowL at hu
  rw [List.getElem?_map] at hu
  obtain ⟨i, hi, rfl⟩ := Option.map_eq_some_iff.1 hu
  obtain ⟨hj, h2⟩ := List.getElem?_eq_some_iff.1 hi
  simp only [List.getElem_range] at h2
  subst h2
  rw [Nat.zero_add]
  exact (h.at_ j (by simpa using hj)).1
set_option maxRecDepth 20000 in
set_option maxHeartbeats 6400000 in
theorem mapply_any (m v : Nat → Int) (w : World) : Calls Try.prog 34 #[.agg #[.int .i64 (m 0), .int .i64 (m 1), .int .i64 (m 2), .int .i64 (m 3), .int .i64 (m 4), .int .i64 (m 5), .int .i64 (m 6), .int .i64 (m 7), .int .i64 (m 8), .int .i64 (m 9), .int .i64 (m 10), .int .i64 (m 11)], .agg #[.int .i64 (v 0), .int .i64 (v 1), .int .i64 (v 2)]] w (RetV w (appE m v) (appR m v 0) (appR m v 1) (appR m v 2)) := by
  have hl0 : w.heap.size ≤ w.heap.size + 1 + 1 := by omega
  have ha : RowZ ((w.alloc (.cells #[.int .i64 (m 0), .int .i64 (m 1), .int .i64 (m 2), .int .i64 (m 3), .int .i64 (m 4), .int .i64 (m 5), .int .i64 (m 6), .int .i64 (m 7), .int .i64 (m 8), .int .i64 (m 9), .int .i64 (m 10), .int .i64 (m 11)] 49)).alloc (.cells #[.int .i64 (v 0), .int .i64 (v 1), .int .i64 (v 2)] 24)) w.heap.size 49 12 m := (row12 (Lies.new w #[.int .i64 (m 0), .int .i64 (m 1), .int .i64 (m 2), .int .i64 (m 3), .int .i64 (m 4), .int .i64 (m 5), .int .i64 (m 6), .int .i64 (m 7), .int .i64 (m 8), .int .i64 (m 9), .int .i64 (m 10), .int .i64 (m 11)] 49 _ rfl)).ext ((Ext.refl _).alloc _)
  have hb : RowZ ((w.alloc (.cells #[.int .i64 (m 0), .int .i64 (m 1), .int .i64 (m 2), .int .i64 (m 3), .int .i64 (m 4), .int .i64 (m 5), .int .i64 (m 6), .int .i64 (m 7), .int .i64 (m 8), .int .i64 (m 9), .int .i64 (m 10), .int .i64 (m 11)] 49)).alloc (.cells #[.int .i64 (v 0), .int .i64 (v 1), .int .i64 (v 2)] 24)) (w.heap.size + 1) 24 3 v := row3 (Lies.new _ _ _ (w.heap.size + 1) (by simp))
  have hx0 : Ext w ((w.alloc (.cells #[.int .i64 (m 0), .int .i64 (m 1), .int .i64 (m 2), .int .i64 (m 3), .int .i64 (m 4), .int .i64 (m 5), .int .i64 (m 6), .int .i64 (m 7), .int .i64 (m 8), .int .i64 (m 9), .int .i64 (m 10), .int .i64 (m 11)] 49)).alloc (.cells #[.int .i64 (v 0), .int .i64 (v 1), .int .i64 (v 2)] 24)) := ((Ext.refl _).alloc _).alloc _
  have hs : w.heap.size + 1 + 1 = (((w.alloc (.cells #[.int .i64 (m 0), .int .i64 (m 1), .int .i64 (m 2), .int .i64 (m 3), .int .i64 (m 4), .int .i64 (m 5), .int .i64 (m 6), .int .i64 (m 7), .int .i64 (m 8), .int .i64 (m 9), .int .i64 (m 10), .int .i64 (m 11)] 49)).alloc (.cells #[.int .i64 (v 0), .int .i64 (v 1), .int .i64 (v 2)] 24))).heap.size := by simp
  have HS := Lib.hid hs; have HX := Lib.hid hx0
  have hm : ∀ W', Ext ((w.alloc (.cells #[.int .i64 (m 0), .int .i64 (m 1), .int .i64 (m 2), .int .i64 (m 3), .int .i64 (m 4), .int .i64 (m 5), .int .i64 (m 6), .int .i64 (m 7), .int .i64 (m 8), .int .i64 (m 9), .int .i64 (m 10), .int .i64 (m 11)] 49)).alloc (.cells #[.int .i64 (v 0), .int .i64 (v 1), .int .i64 (v 2)] 24)) W' → ∀ j, j < 12 → W'.cell? ⟨w.heap.size, j, none⟩ = some (.int .i64 (m j)) := fun W' hw j hj => hw.cell (ha.at_ j hj).1
  have hv : ∀ W', Ext ((w.alloc (.cells #[.int .i64 (m 0), .int .i64 (m 1), .int .i64 (m 2), .int .i64 (m 3), .int .i64 (m 4), .int .i64 (m 5), .int .i64 (m 6), .int .i64 (m 7), .int .i64 (m 8), .int .i64 (m 9), .int .i64 (m 10), .int .i64 (m 11)] 49)).alloc (.cells #[.int .i64 (v 0), .int .i64 (v 1), .int .i64 (v 2)] 24)) W' → ∀ j, j < 3 → W'.cell? ⟨w.heap.size + 1, j, none⟩ = some (.int .i64 (v j)) := fun W' hw j hj => hw.cell (hb.at_ j hj).1
  have hr : ∀ W', Ext ((w.alloc (.cells #[.int .i64 (m 0), .int .i64 (m 1), .int .i64 (m 2), .int .i64 (m 3), .int .i64 (m 4), .int .i64 (m 5), .int .i64 (m 6), .int .i64 (m 7), .int .i64 (m 8), .int .i64 (m 9), .int .i64 (m 10), .int .i64 (m 11)] 49)).alloc (.cells #[.int .i64 (v 0), .int .i64 (v 1), .int .i64 (v 2)] 24)) W' → W'.rangeAt w.heap.size 0 [.int .i64 (m 0), .int .i64 (m 1), .int .i64 (m 2), .int .i64 (m 3), .int .i64 (m 4), .int .i64 (m 5), .int .i64 (m 6), .int .i64 (m 7), .int .i64 (m 8), .int .i64 (m 9), .int .i64 (m 10), .int .i64 (m 11)] := fun W' hw => rangeAt_ext ha.range hw
  have HM := Lib.hid hm; have HV := Lib.hid hv; have HRG := Lib.hid hr
  clear hs hx0 ha hb hm hv hr
  cases hq : matB m
  · have HN := Lib.hid (app_no (m := m) (v := v) (by simp [appB, hq]))
    go_enter Try.func34, Try.ntmps34
    go_wp2_with fail
    generalize ((w.alloc (.cells #[.int .i64 (m 0), .int .i64 (m 1), .int .i64 (m 2), .int .i64 (m 3), .int .i64 (m 4), .int .i64 (m 5), .int .i64 (m 6), .int .i64 (m 7), .int .i64 (m 8), .int .i64 (m 9), .int .i64 (m 10), .int .i64 (m 11)] 49)).alloc (.cells #[.int .i64 (v 0), .int .i64 (v 1), .int .i64 (v 2)] 24)) = wp at *
    have HR := Lib.hid (row3 (v := zeroM) (Lies.new wp #[.int .i64 (zeroM 0), .int .i64 (zeroM 1), .int .i64 (zeroM 2)] 24 _ HS.out))
    go_wp2_with (go_at_call 36; (refine (mright_lit1 m _ _ _ (by simp [HS.out])).mono ?_); rintro e w1 ⟨rfl, hx1⟩; have hx2 : Ext (wp.alloc (.cells #[.int .i64 0, .int .i64 0, .int .i64 0] 24)) w1 := (by (repeat (first | exact Ext.refl _ | assumption | (with_reducible refine Ext.alloc ?_ _) | (with_reducible refine Ext.drew ?_) | (with_reducible refine Ext.drewN ?_ _) | (refine Ext.trans ?_ (by assumption))))); obtain ⟨⟨g0, gf0⟩, ⟨g1, gf1⟩, ⟨g2, gf2⟩⟩ := (HR.out.ext hx2).lies3.three)
    have HZ := Lib.hid (show Lies _ (w.heap.size + 1 + 1) #[.int .i64 0, .int .i64 0, .int .i64 0] 24 from ((((HR.out.ext hx2).lies3).set 0 (.int .i64 0)).set 1 (.int .i64 0)).set 2 (.int .i64 0))
    have HXZ := Lib.hid (show Ext _ (((w1.setCell ⟨(w.heap.size + 1 + 1), 0, none⟩ (.int .i64 0)).setCell ⟨(w.heap.size + 1 + 1), 1, none⟩ (.int .i64 0)).setCell ⟨(w.heap.size + 1 + 1), 2, none⟩ (.int .i64 0)) from (((HX.out.trans (((Ext.refl _).alloc _).trans hx2)).set hl0 _).set hl0 _).set hl0 _)
    generalize (((w1.setCell ⟨(w.heap.size + 1 + 1), 0, none⟩ (.int .i64 0)).setCell ⟨(w.heap.size + 1 + 1), 1, none⟩ (.int .i64 0)).setCell ⟨(w.heap.size + 1 + 1), 2, none⟩ (.int .i64 0)) = wz at *
    obtain ⟨⟨k0, _⟩, ⟨k1, _⟩, k2, _⟩ := HZ.out.three
    refine bodyPost_ret (v := .tuple #[.agg #[.int .i64 0, .int .i64 0, .int .i64 0], .int .i64 1]) (by simp [results, Try.results34, go_sem, k0, k1, k2]) rfl ⟨?_, HXZ.out⟩
    (rw [HN.out.1, HN.out.2, HN.out.2, HN.out.2])
  cases hq2 : okV (v 0) (v 1) (v 2)
  · have HN := Lib.hid (app_no (m := m) (v := v) (by simp [appB, hq2]))
    go_enter Try.func34, Try.ntmps34
    go_wp2_with fail
    generalize ((w.alloc (.cells #[.int .i64 (m 0), .int .i64 (m 1), .int .i64 (m 2), .int .i64 (m 3), .int .i64 (m 4), .int .i64 (m 5), .int .i64 (m 6), .int .i64 (m 7), .int .i64 (m 8), .int .i64 (m 9), .int .i64 (m 10), .int .i64 (m 11)] 49)).alloc (.cells #[.int .i64 (v 0), .int .i64 (v 1), .int .i64 (v 2)] 24)) = wp at *
    have HR := Lib.hid (row3 (v := zeroM) (Lies.new wp #[.int .i64 (zeroM 0), .int .i64 (zeroM 1), .int .i64 (zeroM 2)] 24 _ HS.out))
    have hv := HV.out
    go_wp2_with (first
      | (go_at_call 36; (refine (mright_lit1 m _ _ _ (by simp [HS.out])).mono ?_); rintro e w1 ⟨rfl, hx1⟩; have hx2 : Ext (wp.alloc (.cells #[.int .i64 0, .int .i64 0, .int .i64 0] 24)) w1 := (by (repeat (first | exact Ext.refl _ | assumption | (with_reducible refine Ext.alloc ?_ _) | (with_reducible refine Ext.drew ?_) | (with_reducible refine Ext.drewN ?_ _) | (refine Ext.trans ?_ (by assumption))))); have hx3 : Ext wp w1 := (by (repeat (first | exact Ext.refl _ | assumption | (with_reducible refine Ext.alloc ?_ _) | (with_reducible refine Ext.drew ?_) | (with_reducible refine Ext.drewN ?_ _) | (refine Ext.trans ?_ (by assumption))))))
      | (go_at_call 22; (refine (vright_lit1 _ _ _ _ _ _ rfl).mono ?_); rintro e w2 ⟨rfl, hx4⟩; have hx5 : Ext (wp.alloc (.cells #[.int .i64 0, .int .i64 0, .int .i64 0] 24)) w2 := (by (repeat (first | exact Ext.refl _ | assumption | (with_reducible refine Ext.alloc ?_ _) | (with_reducible refine Ext.drew ?_) | (with_reducible refine Ext.drewN ?_ _) | (refine Ext.trans ?_ (by assumption))))); obtain ⟨⟨g0, gf0⟩, ⟨g1, gf1⟩, ⟨g2, gf2⟩⟩ := (HR.out.ext hx5).lies3.three))
    have HZ := Lib.hid (show Lies _ (w.heap.size + 1 + 1) #[.int .i64 0, .int .i64 0, .int .i64 0] 24 from ((((HR.out.ext hx5).lies3).set 0 (.int .i64 0)).set 1 (.int .i64 0)).set 2 (.int .i64 0))
    have HXZ := Lib.hid (show Ext _ (((w2.setCell ⟨(w.heap.size + 1 + 1), 0, none⟩ (.int .i64 0)).setCell ⟨(w.heap.size + 1 + 1), 1, none⟩ (.int .i64 0)).setCell ⟨(w.heap.size + 1 + 1), 2, none⟩ (.int .i64 0)) from (((HX.out.trans (((Ext.refl _).alloc _).trans hx5)).set hl0 _).set hl0 _).set hl0 _)
    generalize (((w2.setCell ⟨(w.heap.size + 1 + 1), 0, none⟩ (.int .i64 0)).setCell ⟨(w.heap.size + 1 + 1), 1, none⟩ (.int .i64 0)).setCell ⟨(w.heap.size + 1 + 1), 2, none⟩ (.int .i64 0)) = wz at *
    obtain ⟨⟨k0, _⟩, ⟨k1, _⟩, k2, _⟩ := HZ.out.three
    refine bodyPost_ret (v := .tuple #[.agg #[.int .i64 0, .int .i64 0, .int .i64 0], .int .i64 1]) (by simp [results, Try.results34, go_sem, k0, k1, k2]) rfl ⟨?_, HXZ.out⟩
    (rw [HN.out.1, HN.out.2, HN.out.2, HN.out.2])
  have HB := Lib.hid (show appB m v = true by simp [appB, hq, hq2])
  go_enter Try.func34, Try.ntmps34
  go_wp2_with fail
  generalize ((w.alloc (.cells #[.int .i64 (m 0), .int .i64 (m 1), .int .i64 (m 2), .int .i64 (m 3), .int .i64 (m 4), .int .i64 (m 5), .int .i64 (m 6), .int .i64 (m 7), .int .i64 (m 8), .int .i64 (m 9), .int .i64 (m 10), .int .i64 (m 11)] 49)).alloc (.cells #[.int .i64 (v 0), .int .i64 (v 1), .int .i64 (v 2)] 24)) = wp at *
  have HR := Lib.hid (row3 (v := zeroM) (Lies.new wp #[.int .i64 (zeroM 0), .int .i64 (zeroM 1), .int .i64 (zeroM 2)] 24 _ HS.out))
  have hv := HV.out
  go_wp2_with (first
    | (go_at_call 36; (refine (mright_lit1 m _ _ _ (by simp [HS.out])).mono ?_); rintro e w1 ⟨rfl, hx1⟩; have hx2 : Ext (wp.alloc (.cells #[.int .i64 0, .int .i64 0, .int .i64 0] 24)) w1 := (by (repeat (first | exact Ext.refl _ | assumption | (with_reducible refine Ext.alloc ?_ _) | (with_reducible refine Ext.drew ?_) | (with_reducible refine Ext.drewN ?_ _) | (refine Ext.trans ?_ (by assumption))))); have hx3 : Ext wp w1 := (by (repeat (first | exact Ext.refl _ | assumption | (with_reducible refine Ext.alloc ?_ _) | (with_reducible refine Ext.drew ?_) | (with_reducible refine Ext.drewN ?_ _) | (refine Ext.trans ?_ (by assumption))))))
    | (go_at_call 22; (refine (vright_lit1 _ _ _ _ _ _ rfl).mono ?_); rintro e w2 ⟨rfl, hx4⟩; have hx5 : Ext (wp.alloc (.cells #[.int .i64 0, .int .i64 0, .int .i64 0] 24)) w2 := (by (repeat (first | exact Ext.refl _ | assumption | (with_reducible refine Ext.alloc ?_ _) | (with_reducible refine Ext.drew ?_) | (with_reducible refine Ext.drewN ?_ _) | (refine Ext.trans ?_ (by assumption))))); have hx6 : Ext wp w2 := (by (repeat (first | exact Ext.refl _ | assumption | (with_reducible refine Ext.alloc ?_ _) | (with_reducible refine Ext.drew ?_) | (with_reducible refine Ext.drewN ?_ _) | (refine Ext.trans ?_ (by assumption)))))))
  have hgo : w.heap.size + 1 + 1 < w2.heap.size := by have := hx5.size; simp at this; have := HS.out; omega
  have hl2 : w.heap.size ≤ w2.heap.size := by omega
  have hl3 : wp.heap.size ≤ w2.heap.size := hx6.size
  have HT0 : Hid (ASt w (w2.alloc (.cells #[.int .i64 0, .int .i64 0, .int .i64 0] 24)) (w.heap.size + 1 + 1) w2.heap.size (doneV (appR1 m v) 0)) := ⟨(HX.out.trans hx6).alloc _, (HR.out.ext hx5).ext ((Ext.refl _).alloc _), row3 (Lies.new _ _ _ _ rfl)⟩
  have HE0 : Hid (Ext wp (w2.alloc (.cells #[.int .i64 0, .int .i64 0, .int .i64 0] 24))) := hx6.alloc _
  clear hx1 hx2 hx3 hx4 hx5 hx6 hv HR
  have u1 := Try.underlying49
  have u2 : (Try.prog.info? 49).map (·.size) = some (List.length (α := Value) [.int .i64 (m 0), .int .i64 (m 1), .int .i64 (m 2), .int .i64 (m 3), .int .i64 (m 4), .int .i64 (m 5), .int .i64 (m 6), .int .i64 (m 7), .int .i64 (m 8), .int .i64 (m 9), .int .i64 (m 10), .int .i64 (m 11)]) := by kernel_rfl
  have U1 := Lib.hid u1; have U2 := Lib.hid u2; clear u1 u2
  go_loopw [5, 7, 8, 9, 21] (fun _ _ _ _ i wr => ∃ k : Nat, k ≤ 3 ∧ i = .int .i64 k ∧ firstE (appE1 m v) k = 0 ∧ ASt w wr (w.heap.size + 1 + 1) w2.heap.size (doneV (appR1 m v) k) ∧ Ext wp wr) (fun _ _ _ _ i _ => 3 - (intOf i).toNat)
  case atStart => exact ⟨0, by omega, rfl, rfl, HT0.out, HE0.out⟩
  case round =>
    obtain ⟨k, hk, rfl, hf, ht, hxp⟩ := hrel
    have HF := Lib.hid hf; have HT := Lib.hid ht; have HXP := Lib.hid hxp; clear hf ht hxp
    by_cases hk3 : k < 3
    · have hd : decide ((k : Int) < 3) = true := decide_eq_true (by omega)
      go_upto_region 7 with (fail)
      have hm := HM.out; have hv := HV.out; have hrg := HRG.out; have u1 := U1.out; have u2 := U2.out
      have i1 : IntKind.i64.wrap (4 * (k : Int)) = 4 * k := IntWalk.i64_in _ (by omega)
      have i2 : IntKind.i64.wrap (4 * (k : Int) + 3) = 4 * k + 3 := IntWalk.i64_in _ (by omega)
      have i3 : (4 * (k : Int) + 3).toNat = 4 * k + 3 := by omega
      have k1 : (0 : Int) ≤ 4 * (k : Int) + 3 := by omega
      have k2 : 4 * (k : Int) + 3 < 12 := by omega
      have k3 : 4 * k + 3 < 12 := by omega
      have hxp := HXP.out
      have hrr : Ext wr wr := Ext.refl _
      go_region_held3 (fun w' => Ext wp w' ∧ Ext wr w' ∧ w'.rangeAt w.heap.size 0 [.int .i64 (m 0), .int .i64 (m 1), .int .i64 (m 2), .int .i64 (m 3), .int .i64 (m 4), .int .i64 (m 5), .int .i64 (m 6), .int .i64 (m 7), .int .i64 (m 8), .int .i64 (m 9), .int .i64 (m 10), .int .i64 (m 11)]) (exact ⟨by (repeat (first | exact Ext.refl _ | assumption | (with_reducible refine Ext.alloc ?_ _) | (with_reducible refine Ext.drew ?_) | (with_reducible refine Ext.drewN ?_ _) | (refine Ext.trans ?_ (by assumption)))), by (repeat (first | exact Ext.refl _ | assumption | (with_reducible refine Ext.alloc ?_ _) | (with_reducible refine Ext.drew ?_) | (with_reducible refine Ext.drewN ?_ _) | (refine Ext.trans ?_ (by assumption)))), hrg _ (by (repeat (first | exact Ext.refl _ | assumption | (with_reducible refine Ext.alloc ?_ _) | (with_reducible refine Ext.drew ?_) | (with_reducible refine Ext.drewN ?_ _) | (refine Ext.trans ?_ (by assumption)))))⟩) (first
        | (go_at_call 97; (refine (row_any m k _ hk3).mono ?_); rintro e v1 ⟨rfl, hy1⟩)
        | (go_at_call 96; (refine (product_any _ _ _ _ _ _ _ _).mono ?_); rintro e v3 ⟨rfl, hy2⟩))
      have hxr : Ext wr v3 := (by (repeat (first | exact Ext.refl _ | assumption | (with_reducible refine Ext.alloc ?_ _) | (with_reducible refine Ext.drew ?_) | (with_reducible refine Ext.drewN ?_ _) | (refine Ext.trans ?_ (by assumption)))))
      have hxp3 : Ext wp v3 := (by (repeat (first | exact Ext.refl _ | assumption | (with_reducible refine Ext.alloc ?_ _) | (with_reducible refine Ext.drew ?_) | (with_reducible refine Ext.drewN ?_ _) | (refine Ext.trans ?_ (by assumption)))))
      rw [show prodE (m (4 * k)) (m (4 * k + 1)) (m (4 * k + 2)) (v 0) (v 1) (v 2) (m (4 * k + 3)) = appE1 m v k from rfl, show prodR (m (4 * k)) (m (4 * k + 1)) (m (4 * k + 2)) (v 0) (v 1) (v 2) (m (4 * k + 3)) = appR1 m v k from rfl]
      have HT3 := Lib.hid (HT.out.next hxr); have HXP3 := Lib.hid hxp3
      clear hm hv hrg u1 u2 i1 i2 i3 k1 k2 hxp hrr hy1 hy2 hxr hxp3
      by_cases he : appE1 m v k = 0
      · have HN1 := Lib.hid (firstE_next HF.out he)
        have heb : (appE1 m v k != 0) = false := by simpa using he
        obtain ⟨o1, o2⟩ := HT3.out.row.at_ k hk3
        clear he
        go_wp2
        go_roundw
        case rel => exact ⟨k + 1, by omega, by go_num, HN1.out, HT3.out.set hl2 (by omega) _ rfl, HXP3.out.set hl3 _⟩
        case measure => simp [intOf]; omega
      · have HE := Lib.hid (app_err HB.out hk3 HF.out he)
        have heb : (appE1 m v k != 0) = true := by simpa using he
        obtain ⟨⟨g0, gf0⟩, ⟨g1, gf1⟩, ⟨g2, gf2⟩⟩ := HT3.out.res.lies3.three
        clear he
        go_wp2
        have HZ := Lib.hid (show Lies _ (w.heap.size + 1 + 1) #[.int .i64 0, .int .i64 0, .int .i64 0] 24 from (((HT3.out.res.lies3).set 0 (.int .i64 0)).set 1 (.int .i64 0)).set 2 (.int .i64 0))
        have HXZ := Lib.hid (show Ext _ (((v3.setCell ⟨(w.heap.size + 1 + 1), 0, none⟩ (.int .i64 0)).setCell ⟨(w.heap.size + 1 + 1), 1, none⟩ (.int .i64 0)).setCell ⟨(w.heap.size + 1 + 1), 2, none⟩ (.int .i64 0)) from ((HT3.out.ext.set hl0 _).set hl0 _).set hl0 _)
        generalize (((v3.setCell ⟨(w.heap.size + 1 + 1), 0, none⟩ (.int .i64 0)).setCell ⟨(w.heap.size + 1 + 1), 1, none⟩ (.int .i64 0)).setCell ⟨(w.heap.size + 1 + 1), 2, none⟩ (.int .i64 0)) = wz at *
        obtain ⟨⟨k0, _⟩, ⟨k1, _⟩, k2, _⟩ := HZ.out.three
        refine bodyPost_ret (v := .tuple #[.agg #[.int .i64 0, .int .i64 0, .int .i64 0], .int .i64 (appE1 m v k)]) (by simp [results, Try.results34, go_sem, k0, k1, k2]) rfl ⟨?_, HXZ.out⟩
        (rw [HE.out.1, HE.out.2, HE.out.2, HE.out.2])
    · obtain rfl : 3 = k := by omega
      have HE := Lib.hid (app_ok HB.out HF.out)
      obtain ⟨⟨g0, gf0⟩, ⟨g1, gf1⟩, ⟨g2, gf2⟩⟩ := HT.out.res.lies3.three
      obtain ⟨⟨o0, of0⟩, ⟨o1, of1⟩, ⟨o2, of2⟩⟩ := HT.out.row.lies3.three
      go_wp2
      have HZ := Lib.hid (show Lies _ (w.heap.size + 1 + 1) #[.int .i64 (doneV (appR1 m v) 3 0), .int .i64 (doneV (appR1 m v) 3 1), .int .i64 (doneV (appR1 m v) 3 2)] 24 from (((HT.out.res.lies3).set 0 (.int .i64 (doneV (appR1 m v) 3 0))).set 1 (.int .i64 (doneV (appR1 m v) 3 1))).set 2 (.int .i64 (doneV (appR1 m v) 3 2)))
      have HXZ := Lib.hid (show Ext _ (((wr.setCell ⟨(w.heap.size + 1 + 1), 0, none⟩ (.int .i64 (doneV (appR1 m v) 3 0))).setCell ⟨(w.heap.size + 1 + 1), 1, none⟩ (.int .i64 (doneV (appR1 m v) 3 1))).setCell ⟨(w.heap.size + 1 + 1), 2, none⟩ (.int .i64 (doneV (appR1 m v) 3 2))) from ((HT.out.ext.set hl0 _).set hl0 _).set hl0 _)
      generalize (((wr.setCell ⟨(w.heap.size + 1 + 1), 0, none⟩ (.int .i64 (doneV (appR1 m v) 3 0))).setCell ⟨(w.heap.size + 1 + 1), 1, none⟩ (.int .i64 (doneV (appR1 m v) 3 1))).setCell ⟨(w.heap.size + 1 + 1), 2, none⟩ (.int .i64 (doneV (appR1 m v) 3 2))) = wz at *
      obtain ⟨⟨k0, _⟩, ⟨k1, _⟩, k2, _⟩ := HZ.out.three
      refine bodyPost_ret (v := .tuple #[.agg #[.int .i64 (doneV (appR1 m v) 3 0), .int .i64 (doneV (appR1 m v) 3 1), .int .i64 (doneV (appR1 m v) 3 2)], .int .i64 0]) (by simp [results, Try.results34, go_sem, k0, k1, k2]) rfl ⟨?_, HXZ.out⟩
      (rw [HE.out.1, HE.out.2, HE.out.2, HE.out.2]; rfl)
end Go.Proofs.Ytmgckodihnmjoaa
