/-
  The laws of layer 17, walked. Conditions: none but that the slice lies in memory, and holds 64 bits each.
-/
import Derived.Test.YtkepmkdnmmofmaaRadix4
set_option linter.unusedVariables false
set_option linter.unusedSimpArgs false
namespace Go.Proofs.Ytkepmkdnmmofmaa
open Go.RowKit

theorem order_nat (A : Option Addr) (c : Nat) (xs : List Int) (w : World) (h : RdK .u64 w A xs) (hu : U64s xs) (hl : xs.length ≤ 1000) :
    Calls Try.prog 15 #[.slice A xs.length c] w (RetRow 3 .i64 w (natI (ordL xs))) := order_ord A c xs w h hu hl
theorem order_lit4 (a b c d : Int) (w : World) (t n : Nat) (hn : n = w.heap.size) (hu : U64s [a, b, c, d]) : Calls Try.prog 15 #[.slice (some ⟨n, 0, none⟩) 4 4] (w.alloc (.cells #[.int .u64 a, .int .u64 b, .int .u64 c, .int .u64 d] t)) (RetRow 3 .i64 (w.alloc (.cells #[.int .u64 a, .int .u64 b, .int .u64 c, .int .u64 d] t)) (natI (ordL [a, b, c, d]))) :=
  order_nat _ 4 [a, b, c, d] _ (rdK_lit .u64 w [a, b, c, d] t (0, 0) (by simp) n hn) hu (by simp)
theorem sorted_lit3 (a b c : Int) (w : World) (t n : Nat) (hn : n = w.heap.size) (hu : U64s [a, b, c]) : Calls Try.prog 17 #[.slice (some ⟨n, 0, none⟩) 3 3] (w.alloc (.cells #[.int .u64 a, .int .u64 b, .int .u64 c] t)) (RetRow 30 .u64 (w.alloc (.cells #[.int .u64 a, .int .u64 b, .int .u64 c] t)) (srtL [a, b, c])) :=
  sorted_any _ 3 [a, b, c] _ (rdK_lit .u64 w [a, b, c] t (0, 0) (by simp) n hn) hu (by simp)
theorem passes_lit2 (a b : Int) (w : World) (t n : Nat) (hn : n = w.heap.size) (hu : U64s [a, b]) : Calls Try.prog 18 #[.slice (some ⟨n, 0, none⟩) 2 2] (w.alloc (.cells #[.int .u64 a, .int .u64 b] t)) fun e w' => e = .returned (.int .i64 (passN [a, b] : Int)) ∧ Ext (w.alloc (.cells #[.int .u64 a, .int .u64 b] t)) w' :=
  passes_any _ 2 [a, b] _ (rdK_lit .u64 w [a, b] t (0, 0) (by simp) n hn) hu
def bigK : Int := 1152921504606846976
def bigH : Int := 9223372036854775808
theorem f17_1 : natI (ordL [1152921504606846976, 5, 1152921504606846976, 4]) = [3, 1, 0, 2] := by decide +kernel
theorem f17_2 : srtL [9, 9223372036854775808, 9] = [9, 9, 9223372036854775808] := by decide +kernel
theorem f17_3 : (passN [257, 513] : Int) = 1 := by decide +kernel
theorem f17_4 : (passN [256, 513] : Int) = 2 := by decide +kernel
theorem u17_1 : U64s [1152921504606846976, 5, 1152921504606846976, 4] := ⟨fun x hx => by simp at hx; omega⟩
theorem u17_2 : U64s [9, 9223372036854775808, 9] := ⟨fun x hx => by simp at hx; omega⟩
theorem u17_3 : U64s [257, 513] := ⟨fun x hx => by simp at hx; omega⟩
theorem u17_4 : U64s [256, 513] := ⟨fun x hx => by simp at hx; omega⟩
theorem own_cells {e : Nat} {q : IntKind} {b : Nat} {w : World} {v : Value} {xs : List Int} (h : Own e q b w v xs) (h0 : 0 < xs.length) : ∃ g c, v = .slice (some ⟨g, 0, none⟩) xs.length c ∧ ∀ i, i < xs.length → w.cell? ⟨g, i, none⟩ = some (.int q (nth xs i)) := by
  obtain ⟨g, c, _, rfl, _⟩ := h.form h0
  exact ⟨g, c, rfl, fun i hi => (h.at_ i hi).1⟩
theorem srtL_nth (xs : List Int) (k : Nat) (h : k < xs.length) : nth (srtL xs) k = nth xs (nthN (ordL xs) k) := by
  rw [nth_get _ _ (by rw [srtL_len]; exact h), nthN_get _ _ (by rw [ordL_len]; exact h)]
  simp [srtL]
attribute [local irreducible] ordL srtL passN
set_option maxRecDepth 20000 in
set_option maxHeartbeats 2000000 in
theorem alive17_any (w : World) : Calls Try.prog 14 #[] w fun e w' => e = .returned (.bool true) ∧ Ext w w' := by
  go_enter Try.func14, Try.ntmps14
  go_wp2_with (first
    | (go_at_call 15; (with_reducible refine (order_lit4 _ _ _ _ _ _ _ rfl u17_1).mono ?_); rintro e w1 ⟨v1, rfl, ho1, hx1⟩; rw [f17_1] at ho1; have hO1 := Lib.hid ho1; obtain ⟨g1, c1, rfl, _⟩ := own_cells ho1 (by decide); clear ho1)
    | (go_at_call 17; (with_reducible refine (sorted_lit3 _ _ _ _ _ _ rfl u17_2).mono ?_); rintro e w2 ⟨v2, rfl, ho2, hx2⟩; rw [f17_2] at ho2; have hE : Ext w1 w2 := ((Ext.refl w1).alloc _).trans hx2; have q1 := fun i hi => (((hO1.out).ext hE).at_ i hi).1; obtain ⟨g2, c2, rfl, q2⟩ := own_cells ho2 (by decide); have k0 : w2.cell? ⟨g1, 0, none⟩ = some (.int .i64 3) := q1 0 (by decide); have k1 : w2.cell? ⟨g1, 1, none⟩ = some (.int .i64 1) := q1 1 (by decide); have k2 : w2.cell? ⟨g1, 2, none⟩ = some (.int .i64 0) := q1 2 (by decide); have k3 : w2.cell? ⟨g1, 3, none⟩ = some (.int .i64 2) := q1 3 (by decide); have k4 : w2.cell? ⟨g2, 1, none⟩ = some (.int .u64 9) := q2 1 (by decide); clear q1 q2)
    | (go_at_call 18; (with_reducible refine (passes_lit2 257 513 _ _ _ rfl u17_3).mono ?_); rintro e w3 ⟨rfl, hx3⟩; rw [f17_3])
    | (go_at_call 18; (with_reducible refine (passes_lit2 256 513 _ _ _ rfl u17_4).mono ?_); rintro e w4 ⟨rfl, hx4⟩; rw [f17_4]))
  go_ret
  exact ⟨ret_eq rfl, by (repeat (first | exact Ext.refl _ | assumption | (with_reducible refine Ext.alloc ?_ _) | (with_reducible refine Ext.drew ?_) | (with_reducible refine Ext.drewN ?_ _) | (refine Ext.trans ?_ (by assumption))))⟩
set_option maxRecDepth 20000 in
set_option maxHeartbeats 4000000 in
theorem tells17_any (A : Option Addr) (c : Nat) (xs : List Int) (w : World) (h : RdK .u64 w A xs) (hu : U64s xs) :
    Calls Try.prog 3 #[.slice A xs.length c] w fun e w' => e = .returned (.bool true) ∧ Ext w w' := by
  by_cases hl : 600 < xs.length
  · clear h hu
    go_enter Try.func3, Try.ntmps3
    go_wp2_with (go_at_call 14; (with_reducible refine (alive17_any _).mono ?_); rintro e w' ⟨rfl, hx⟩)
    go_ret
    exact ⟨ret_eq rfl, by (repeat (first | exact Ext.refl _ | assumption | (with_reducible refine Ext.alloc ?_ _) | (with_reducible refine Ext.drew ?_) | (with_reducible refine Ext.drewN ?_ _) | (refine Ext.trans ?_ (by assumption))))⟩
  have H := Lib.hid h; clear h
  have HU := Lib.hid hu; clear hu
  have HS := Lib.hid (ordL_srt HU.out)
  have hol := Lib.hid (ordL_len xs)
  have hsl := Lib.hid (srtL_len xs)
  have hni : Hid ((natI (ordL xs)).length = xs.length) := by show _ = _; rw [natI_len, ordL_len]
  have hl2 : Hid (xs.length ≤ 1000) := by show _ ≤ _; omega
  have hb0 : Hid ((0 + xs.length) * 8 ≤ 140737488355328) := by show _ ≤ _; omega
  go_enter Try.func3, Try.ntmps3
  go_wp2_with (first
    | (at_builtin; refine app_rowN (w0 := w) 8 Try.underlying22 rinfo_u64 (by decide) _ [] xs A c xs.length rfl rfl rfl (Own.made0 _ _ _ _ (Nat.le_refl _) _ rfl) ((Ext.refl _).alloc _) (H.out.ext ((Ext.refl _).alloc _)) hb0.out ?_; intro v1 w1 ho1 hx1; rw [List.nil_append] at ho1; obtain ⟨A1, c1, rfl, hr1, _⟩ := ho1.read)
    | (go_at_call 15; (with_reducible refine (order_nat _ _ _ _ (H.out.ext hx1) HU.out hl2.out).mono ?_); rintro e w2 ⟨v2, rfl, ho2, hx2⟩; obtain ⟨A2, c2, rfl, hr2, _⟩ := ho2.read; rw [hni.out])
    | (go_at_call 16; (with_reducible refine (rorder_any _ _ _ _ (H.out.ext (hx1.trans hx2)) HU.out hl2.out).mono ?_); rintro e w3 ⟨v3, o, rfl, hso, ho3, hx3⟩; have heq := hso.same HS.out; subst heq; clear hso; obtain ⟨A3, c3, rfl, hr3, _⟩ := ho3.read; rw [hni.out])
    | (go_at_call 17; (with_reducible refine (sorted_any _ _ _ _ (H.out.ext ((hx1.trans hx2).trans hx3)) HU.out hl2.out).mono ?_); rintro e w4 ⟨v4, rfl, ho4, hx4⟩; obtain ⟨A4, c4, rfl, hr4, _⟩ := ho4.read; rw [hsl.out])
    | (go_at_call 18; (with_reducible refine (passes_any _ _ _ _ (H.out.ext (((hx1.trans hx2).trans hx3).trans hx4)) HU.out).mono ?_); rintro e w5 ⟨rfl, hx5⟩)
    | (go_at_call 19; (with_reducible refine (rpasses_any _ _ _ _ (H.out.ext ((((hx1.trans hx2).trans hx3).trans hx4).trans hx5)) HU.out).mono ?_); rintro e w6 ⟨rfl, hx6⟩))
  have HX := Lib.hid (((((hx1.trans hx2).trans hx3).trans hx4).trans hx5).trans hx6)
  have HR0 := Lib.hid (H.out.ext HX.out)
  have HR1 := Lib.hid (hr1.ext ((((hx2.trans hx3).trans hx4).trans hx5).trans hx6))
  have HR2 := Lib.hid (hr2.ext (((hx3.trans hx4).trans hx5).trans hx6))
  have HR3 := Lib.hid (hr3.ext ((hx4.trans hx5).trans hx6))
  have HR4 := Lib.hid (hr4.ext (hx5.trans hx6))
  clear hr1 hr2 hr3 hr4 ho1 ho2 ho3 ho4 hx1 hx2 hx3 hx4 hx5 hx6
  go_loopw [7] (fun i wr => ∃ k : Nat, k ≤ xs.length ∧ i = .int .i64 k ∧ Drw w6 wr) (fun i _ => xs.length - (intOf i).toNat)
  case atStart => exact ⟨0, by omega, rfl, Drw.refl _⟩
  case round =>
    obtain ⟨k, hk, rfl, hdw⟩ := hrel
    by_cases hlt : k < xs.length
    · have hin := ordL_in hlt
      obtain ⟨a1, rfl, h1⟩ := HR1.out.2 k hlt
      obtain ⟨a2, rfl, h2⟩ := HR2.out.2 k (by rw [hni.out]; exact hlt)
      obtain ⟨a3, rfl, h3⟩ := HR3.out.2 k (by rw [hni.out]; exact hlt)
      obtain ⟨a4, rfl, h4⟩ := HR4.out.2 k (by rw [hsl.out]; exact hlt)
      obtain ⟨a0, rfl, h0⟩ := HR0.out.2 k hlt
      obtain ⟨a0', e, h5⟩ := HR0.out.2 (nthN (ordL xs) k) hin
      injection e with e; subst e
      rw [natI_nth _ _ (by rw [hol.out]; exact hlt), ← hdw.cell] at h2 h3
      have hs := srtL_nth xs k hlt
      rw [hs, ← hdw.cell] at h4
      rw [← hdw.cell] at h0 h1 h5
      clear hs
      generalize nthN (ordL xs) k = i at *
      have hk0 : (0 : Int) ≤ (k : Int) := by omega
      have hk1 : (k : Int) < (xs.length : Int) := by omega
      have hi0 : (0 : Int) ≤ (i : Int) := by omega
      have hi1 : (i : Int) < (xs.length : Int) := by omega
      generalize nth xs k = y at *
      generalize nth xs i = z at *
      go_wp2
      (refine wp_region_quiet_lit (by kernel_rfl) (by kernel_rfl) ?_; (iterate 34 (any_goals (first | go_big_quiet_step (fail) | quiet_step (fail)))); all_goals (refine wpQuiet_nil ?_; intro _ hw'; obtain ⟨nq, hw''⟩ := hw'; subst hw''))
      go_wp2
      go_roundw
      case rel => exact ⟨k + 1, by omega, by go_num, hdw.step _⟩
      case measure => simp [intOf]; omega
    · have hx := hdw.ext
      go_wp2_with (go_at_call 14; (with_reducible refine (alive17_any _).mono ?_); rintro e w' ⟨rfl, hx⟩)
      go_ret
      exact ⟨ret_eq rfl, (HX.out.trans hdw.ext).trans hx⟩
end Go.Proofs.Ytkepmkdnmmofmaa
