/-
  The reference of layer 3: a row by a column, and more; walked. Conditions: the row is one.
-/
import Derived.Test.YtmgckodihnmjoaaRef03b
import Derived.Test.YtmgckodihnmjoaaRef02e
import Derived.IntWalk
set_option linter.unusedVariables false
set_option linter.unusedSimpArgs false
namespace Go.Proofs.Ytmgckodihnmjoaa
open Go.RowKit

theorem row3 {w : World} {g e : Nat} {v : Nat → Int} (h : Lies w g #[.int .i64 (v 0), .int .i64 (v 1), .int .i64 (v 2)] e) : RowZ w g e 3 v := by
  refine ⟨⟨_, h, rfl, fun j hj => ?_⟩⟩
  match j, hj with
  | 0, _ => rfl
  | 1, _ => rfl
  | 2, _ => rfl
def accL (mo : Int) (p : Nat → Int) (k : Nat) : List Int := mo :: (List.range k).map p
theorem accL_succ (mo : Int) (p : Nat → Int) (k : Nat) : accL mo p (k + 1) = accL mo p k ++ [p k] := by simp [accL, List.range_succ]
theorem accL_len (mo : Int) (p : Nat → Int) (k : Nat) : (accL mo p k).length = k + 1 := by simp [accL]
def sumP (m : Nat → Int) (r : Nat) (v : Nat → Int) (j : Nat) : Int := mulR (m (4 * r + j)) (v j)
def sumQ (m : Nat → Int) (r : Nat) (v : Nat → Int) (j : Nat) : Int := mulE (m (4 * r + j)) (v j)
def sumR (m : Nat → Int) (r : Nat) (v : Nat → Int) (mo : Int) : Int := prodR (m (4 * r)) (m (4 * r + 1)) (m (4 * r + 2)) (v 0) (v 1) (v 2) mo
def sumE (m : Nat → Int) (r : Nat) (v : Nat → Int) (mo : Int) : Int := prodE (m (4 * r)) (m (4 * r + 1)) (m (4 * r + 2)) (v 0) (v 1) (v 2) mo
theorem sum_err (m : Nat → Int) (r : Nat) (v : Nat → Int) (mo : Int) (k : Nat) (hk : k < 3) (h : ∀ i, i < k → sumQ m r v i = 0) (he : ¬ sumQ m r v k = 0) : sumE m r v mo = sumQ m r v k ∧ sumR m r v mo = 0 := by
  have hd : dotM (m (4 * r)) (m (4 * r + 1)) (m (4 * r + 2)) (v 0) (v 1) (v 2) = sumQ m r v k := by
    obtain rfl | rfl | rfl : k = 0 ∨ k = 1 ∨ k = 2 := by omega
    · exact e3_a he _ _
    · have h0 := h 0 (by omega)
      unfold dotM; rw [show mulE (m (4 * r)) (v 0) = 0 from h0]; exact e3_b he _
    · have h0 := h 0 (by omega)
      have h1 := h 1 (by omega)
      unfold dotM; rw [show mulE (m (4 * r)) (v 0) = 0 from h0, show mulE (m (4 * r + 1)) (v 1) = 0 from h1]; exact e3_c _
  unfold sumE sumR prodE prodR
  rw [hd, if_neg he, if_neg he]
  exact ⟨rfl, rfl⟩
theorem sum_ok (m : Nat → Int) (r : Nat) (v : Nat → Int) (mo : Int) (h : ∀ i, i < 3 → sumQ m r v i = 0) : sumE m r v mo = addE (accL mo (sumP m r v) 3) ∧ sumR m r v mo = addR (accL mo (sumP m r v) 3) := by
  have hd : dotM (m (4 * r)) (m (4 * r + 1)) (m (4 * r + 2)) (v 0) (v 1) (v 2) = 0 := by
    have h0 := h 0 (by omega); have h1 := h 1 (by omega); have h2 := h 2 (by omega)
    unfold dotM; rw [show mulE (m (4 * r)) (v 0) = 0 from h0, show mulE (m (4 * r + 1)) (v 1) = 0 from h1, show mulE (m (4 * r + 2)) (v 2) = 0 from h2]; rfl
  unfold sumE sumR prodE prodR
  rw [hd, if_pos rfl, if_pos rfl]
  exact ⟨rfl, rfl⟩
set_option maxRecDepth 20000 in
set_option maxHeartbeats 3200000 in
theorem rsum_any (m : Nat → Int) (r : Nat) (v : Nat → Int) (mo : Int) (w : World) (hr : r < 3) : Calls Try.prog 98 #[.agg #[.int .i64 (m 0), .int .i64 (m 1), .int .i64 (m 2), .int .i64 (m 3), .int .i64 (m 4), .int .i64 (m 5), .int .i64 (m 6), .int .i64 (m 7), .int .i64 (m 8), .int .i64 (m 9), .int .i64 (m 10), .int .i64 (m 11)], .int .i64 (r : Int), .agg #[.int .i64 (v 0), .int .i64 (v 1), .int .i64 (v 2)], .int .i64 mo] w fun e w' => e = .returned (.tuple #[.int .i64 (sumR m r v mo), .int .i64 (sumE m r v mo)]) ∧ Ext w w' := by
  have ha := (row12 (Lies.new w #[.int .i64 (m 0), .int .i64 (m 1), .int .i64 (m 2), .int .i64 (m 3), .int .i64 (m 4), .int .i64 (m 5), .int .i64 (m 6), .int .i64 (m 7), .int .i64 (m 8), .int .i64 (m 9), .int .i64 (m 10), .int .i64 (m 11)] 49 _ rfl)).ext ((Ext.refl _).alloc (.cells #[.int .i64 (v 0), .int .i64 (v 1), .int .i64 (v 2)] 23))
  have hb : RowZ ((w.alloc (.cells #[.int .i64 (m 0), .int .i64 (m 1), .int .i64 (m 2), .int .i64 (m 3), .int .i64 (m 4), .int .i64 (m 5), .int .i64 (m 6), .int .i64 (m 7), .int .i64 (m 8), .int .i64 (m 9), .int .i64 (m 10), .int .i64 (m 11)] 49)).alloc (.cells #[.int .i64 (v 0), .int .i64 (v 1), .int .i64 (v 2)] 23)) (w.heap.size + 1) 23 3 v := row3 (Lies.new _ _ 23 (w.heap.size + 1) (by simp))
  have hx0 : Ext w ((w.alloc (.cells #[.int .i64 (m 0), .int .i64 (m 1), .int .i64 (m 2), .int .i64 (m 3), .int .i64 (m 4), .int .i64 (m 5), .int .i64 (m 6), .int .i64 (m 7), .int .i64 (m 8), .int .i64 (m 9), .int .i64 (m 10), .int .i64 (m 11)] 49)).alloc (.cells #[.int .i64 (v 0), .int .i64 (v 1), .int .i64 (v 2)] 23)) := ((Ext.refl _).alloc _).alloc _
  have hn : w.heap.size + 1 + 1 = ((w.alloc (.cells #[.int .i64 (m 0), .int .i64 (m 1), .int .i64 (m 2), .int .i64 (m 3), .int .i64 (m 4), .int .i64 (m 5), .int .i64 (m 6), .int .i64 (m 7), .int .i64 (m 8), .int .i64 (m 9), .int .i64 (m 10), .int .i64 (m 11)] 49)).alloc (.cells #[.int .i64 (v 0), .int .i64 (v 1), .int .i64 (v 2)] 23)).heap.size := by simp
  have HA := Lib.hid ha; have HB := Lib.hid hb; have HX := Lib.hid hx0; have HN := Lib.hid hn; clear ha hb hx0 hn
  go_enter Try.func98, Try.ntmps98
  go_wp2
  generalize ((w.alloc (.cells #[.int .i64 (m 0), .int .i64 (m 1), .int .i64 (m 2), .int .i64 (m 3), .int .i64 (m 4), .int .i64 (m 5), .int .i64 (m 6), .int .i64 (m 7), .int .i64 (m 8), .int .i64 (m 9), .int .i64 (m 10), .int .i64 (m 11)] 49)).alloc (.cells #[.int .i64 (v 0), .int .i64 (v 1), .int .i64 (v 2)] 23)) = w1 at *
  have HO : Hid (Own 22 .i64 w1.heap.size (w1.alloc (.cells #[.int .i64 mo] 22)) (.slice (some ⟨w.heap.size + 1 + 1, 0, none⟩) 1 1) (accL mo (sumP m r v) 0)) := Own.lit1 _ _ _ _ (Nat.le_refl _) _ HN.out _
  have HY : Hid (Ext w1 (w1.alloc (.cells #[.int .i64 mo] 22))) := (Ext.refl w1).alloc _
  go_loopw [8, 9, 10, 11, 12, 13] (fun _ _ l j _ _ wr => ∃ k : Nat, k ≤ 3 ∧ j = .int .i64 k ∧ (∀ i, i < k → sumQ m r v i = 0) ∧ Own 22 .i64 w1.heap.size wr l (accL mo (sumP m r v) k) ∧ Ext w1 wr) (fun _ _ _ j _ _ _ => 3 - (intOf j).toNat)
  case atStart => exact ⟨0, by omega, rfl, fun i hi => by omega, HO.out, HY.out⟩
  case round =>
    obtain ⟨k, hk, rfl, hz, ho, hy⟩ := hrel
    have HZ := Lib.hid hz; have HO1 := Lib.hid ho; have HY1 := Lib.hid hy; clear hz ho hy HO HY
    by_cases hk3 : k < 3
    · have hd : decide ((k : Int) < 3) = true := decide_eq_true (by omega)
      have c1 := Lib.hid ((HA.out.ext HY1.out).at_ (4 * r + k) (by omega)).1
      have c2 := Lib.hid ((HB.out.ext HY1.out).at_ k hk3).1
      have k1 : (0 : Int) ≤ 4 * (r : Int) + k := by omega
      have k2 : 4 * (r : Int) + k < 12 := by omega
      have k3 : (0 : Int) ≤ k := by omega
      have k4 : (k : Int) < 3 := by omega
      have HSN := Lib.hid (accL_succ mo (sumP m r v) k)
      go_wp2
      have i1 : IntKind.i64.wrap (4 * (r : Int)) = 4 * r := IntWalk.i64_in _ (by omega)
      have i2 : IntKind.i64.wrap (4 * (r : Int) + k) = 4 * r + k := IntWalk.i64_in _ (by omega)
      have i3 : (4 * (r : Int) + k).toNat = 4 * r + k := by omega
      have c1' := c1.out; have c2' := c2.out
      go_region_held3 (fun w' => w'.cell? ⟨w.heap.size, 4 * r + k, none⟩ = some (.int .i64 (m (4 * r + k))) ∧ w'.cell? ⟨w.heap.size + 1, k, none⟩ = some (.int .i64 (v k))) (first | go_keep | (exact ⟨hx2.cell (by simpa using c1'), hx2.cell (by simpa using c2')⟩))
        ((go_at_call 88; (refine (rmul_any _ _ _).mono ?_); rintro e v0 ⟨rfl, hx2⟩))
      have hxy : Ext wr v0 := ((Ext.refl _).drew).trans hx2
      clear i1 i2 i3 c1' c2' k1 k2 k3 k4 hd
      by_cases he : mulE (m (4 * r + k)) (v k) = 0
      · have HN1 : Hid (∀ i, i < k + 1 → sumQ m r v i = 0) := fun i hi => by
          rcases Nat.lt_or_ge i k with h1 | h1
          · exact HZ.out i h1
          · obtain rfl : i = k := by omega
            exact he
        have heb : (mulE (m (4 * r + k)) (v k) != 0) = false := by simpa using he
        clear he
        go_wp2_with (at_builtin; refine app_one (w0 := w1) 8 Try.underlying66 vinfo_F (by decide) _ (accL mo (sumP m r v) k) rfl rfl rfl (HO1.out.ext hxy) (HY1.out.trans hxy) (by rw [accL_len]; omega) ?_; intro u0 y0 ho0 hy0)
        go_roundw
        case rel => exact ⟨k + 1, by omega, by go_num, HN1.out, by rw [HSN.out]; exact ho0, hy0⟩
        case measure => simp [intOf]; omega
      · have HE := Lib.hid (sum_err m r v mo k hk3 HZ.out he)
        have heb : (mulE (m (4 * r + k)) (v k) != 0) = true := by simpa using he
        clear he
        go_wp2
        go_ret2
        exact ⟨by rw [HE.out.1, HE.out.2]; rfl, HX.out.trans (HY1.out.trans hxy)⟩
    · obtain rfl : 3 = k := by omega
      have HE := Lib.hid (sum_ok m r v mo HZ.out)
      obtain ⟨A3, c3, rfl, hr3, _⟩ := HO1.out.read
      have HR3 := Lib.hid hr3; clear hr3
      have HL3 := Lib.hid (accL_len mo (sumP m r v) 3)
      go_wp2_with (go_at_call 83; (refine (radd_any A3 c3 (accL mo (sumP m r v) 3) _ HR3.out).mono ?_); rintro e w9 ⟨rfl, rfl⟩)
      go_ret2
      exact ⟨ret2 HE.out.2.symm HE.out.1.symm, HX.out.trans HY1.out⟩
end Go.Proofs.Ytmgckodihnmjoaa
