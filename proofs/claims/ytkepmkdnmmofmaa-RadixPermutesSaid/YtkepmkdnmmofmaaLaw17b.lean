/-
  The law RadixPermutes, walked. Conditions: none but that the slice lies in memory, and holds 64 bits each.
-/
import Derived.Test.YtkepmkdnmmofmaaLaw17
set_option linter.unusedVariables false
set_option linter.unusedSimpArgs false
namespace Go.Proofs.Ytkepmkdnmmofmaa
open Go.RowKit

/-- A block of so many truths. -/
structure RowB (w : World) (g e N : Nat) (f : Nat → Bool) : Prop where mk :: (out : ∃ cs, Lies w g cs e ∧ cs.size = N ∧ ∀ j, j < N → cs[j]? = some (.bool (f j)))
theorem RowB.at_ {w : World} {g e N : Nat} {f : Nat → Bool} (h : RowB w g e N f) (j : Nat) (hj : j < N) : w.cell? ⟨g, j, none⟩ = some (.bool (f j)) ∧ w.frozen? ⟨g, j, none⟩ = false := by
  obtain ⟨cs, h1, _, h3⟩ := h.out
  exact h1.at_ j _ (h3 j hj)
theorem RowB.ext {w w' : World} {g e N : Nat} {f : Nat → Bool} (h : RowB w g e N f) (hc : Ext w w') : RowB w' g e N f := by
  obtain ⟨cs, h1, h2⟩ := h.out
  exact ⟨⟨cs, h1.ext hc, h2⟩⟩
theorem RowB.set {w : World} {g e N : Nat} {f f' : Nat → Bool} (h : RowB w g e N f) (i : Nat) (b : Bool) (h1 : f' i = b) (h2 : ∀ j, j ≠ i → f' j = f j) : RowB (w.setCell ⟨g, i, none⟩ (.bool b)) g e N f' := by
  obtain ⟨cs, hl, hn, h3⟩ := h.out
  refine ⟨⟨_, hl.set _ _, by simpa using hn, fun j hj => ?_⟩⟩
  by_cases e : j = i
  · subst e; rw [Array.getElem?_setIfInBounds, if_pos rfl, if_pos (by omega), h1]
  · rw [Array.getElem?_setIfInBounds, if_neg (by omega), h2 j e]; exact h3 j hj
theorem zeros600 : Try.zeroCells32 = (List.replicate 600 (Value.bool false)).toArray := by kernel_rfl
theorem seen_new (w : World) (n : Nat) (hn : n = w.heap.size) : RowB (w.alloc (.cells Try.zeroCells32 32)) n 32 600 (fun _ => false) := by
  refine ⟨⟨_, Lies.new _ _ _ _ hn, by rw [zeros600, List.size_toArray, List.length_replicate], fun j hj => ?_⟩⟩
  rw [zeros600, List.getElem?_toArray, List.getElem?_replicate, if_pos hj]
def seenF (o : List Nat) (k j : Nat) : Bool := decide (j ∈ o.take k)
theorem seen_zero (o : List Nat) : (fun _ => false) = seenF o 0 := by funext j; simp [seenF]
theorem srt_nodup {key : Nat → Nat} {n : Nat} {o : List Nat} (h : Srt key n o) : o.Nodup := h.perm.nodup_iff.2 List.nodup_range
theorem seen_not {key : Nat → Nat} {n : Nat} {o : List Nat} (h : Srt key n o) (k : Nat) (hk : k < o.length) : seenF o k (nthN o k) = false := by
  unfold seenF
  rw [decide_eq_false_iff_not]
  intro hm
  obtain ⟨q, hq, e⟩ := List.getElem_of_mem hm
  rw [List.length_take] at hq
  rw [List.getElem_take, nthN_get _ _ hk] at e
  have := List.pairwise_iff_getElem.1 (srt_nodup h) q k (by omega) hk (by omega)
  exact this e
theorem seen_next {o : List Nat} (k : Nat) (hk : k < o.length) : seenF o (k + 1) (nthN o k) = true ∧ ∀ j, j ≠ nthN o k → seenF o (k + 1) j = seenF o k j := by
  unfold seenF
  rw [take_next o k hk]
  exact ⟨by simp, fun j hj => by simp [hj]⟩
theorem srt_step {key : Nat → Nat} {n : Nat} {o : List Nat} (h : Srt key n o) (u : Nat) (hk : u + 1 < o.length) : Aft key (nthN o u) (nthN o (u + 1)) := by
  have := List.pairwise_iff_getElem.1 h.rise u (u + 1) (by omega) hk (by omega)
  rwa [← nthN_get _ _ hk, ← nthN_get _ _ (by omega)] at this
structure Seen (w wr : World) (gs : Nat) (o : List Nat) (k : Nat) : Prop where
  ext : Ext w wr
  row : RowB wr gs 32 600 (seenF o k)
set_option maxRecDepth 20000 in
set_option maxHeartbeats 4000000 in
theorem permutes17_any (A : Option Addr) (c : Nat) (xs : List Int) (w : World) (h : RdK .u64 w A xs) (hu : U64s xs) :
    Calls Try.prog 4 #[.slice A xs.length c] w fun e w' => e = .returned (.bool true) ∧ Ext w w' := by
  by_cases hl : 600 < xs.length
  · clear h hu
    go_enter Try.func4, Try.ntmps4
    go_wp2_with (go_at_call 14; (with_reducible refine (alive17_any _).mono ?_); rintro e w' ⟨rfl, hx⟩)
    go_ret
    exact ⟨ret_eq rfl, by (repeat (first | exact Ext.refl _ | assumption | (with_reducible refine Ext.alloc ?_ _) | (with_reducible refine Ext.drew ?_) | (with_reducible refine Ext.drewN ?_ _) | (refine Ext.trans ?_ (by assumption))))⟩
  have hr2 : ∀ i, i < xs.length → ∃ ad, A = some ad ∧ ∀ w', Ext w w' → w'.cell? (ad.add i) = some (.int .u64 (keyN xs i : Int)) := fun i hi => by
    obtain ⟨ad, e, hc⟩ := h.2 i hi
    rw [keyN_eq hu i hi] at hc
    exact ⟨ad, e, fun w' hx => hx.cell hc⟩
  have HO := Lib.hid (order_nat A c xs w h hu (by omega))
  have HS := Lib.hid (ordL_srt hu)
  have HR := Lib.hid hr2; clear hr2 h hu
  have hol := ordL_len xs
  generalize ordL xs = o at *
  generalize keyN xs = key at *
  generalize xs.length = n at *
  have hni : Hid ((natI o).length = n) := by show _ = _; rw [natI_len, hol]
  have HL := Lib.hid hol; clear hol
  go_enter Try.func4, Try.ntmps4
  go_wp2_with (go_at_call 15; (with_reducible refine HO.out.mono ?_); rintro e w2 ⟨v2, rfl, ho2, hx2⟩; obtain ⟨A2, c2, rfl, hr2, _⟩ := ho2.read; rw [hni.out])
  have HR2 := Lib.hid hr2
  have hnew := seen_new w2 _ rfl
  rw [seen_zero o] at hnew
  have HNEW := Lib.hid hnew
  clear ho2 hr2 hnew
  generalize hgs : w2.heap.size = gs at *
  have hgs2 : Hid (w2.heap.size ≤ gs) := by show _ ≤ _; omega
  clear hgs
  go_loopw [5] (fun i wr => ∃ k : Nat, k ≤ n ∧ i = .int .i64 k ∧ Seen w2 wr gs o k) (fun i _ => n - (intOf i).toNat)
  case atStart => exact ⟨0, by omega, rfl, ⟨(Ext.refl _).alloc _, HNEW.out⟩⟩
  case round =>
    obtain ⟨k, hk, rfl, hsx, hsr⟩ := hrel
    have HSX := Lib.hid hsx; clear hsx
    by_cases hlt : k < n
    · have hin := HS.out.lt (nthN_mem o k (by rw [HL.out]; exact hlt))
      obtain ⟨a2, rfl, h2⟩ := (HR2.out.ext HSX.out).2 k (by rw [hni.out]; exact hlt)
      rw [natI_nth _ _ (by rw [HL.out]; exact hlt)] at h2
      obtain ⟨h3, h4⟩ := hsr.at_ (nthN o k) (by omega)
      rw [seen_not HS.out k (by rw [HL.out]; exact hlt)] at h3
      have hnx := seen_next k (by rw [HL.out]; exact hlt)
      have hs2 := Lib.hid (hsr.set (nthN o k) true hnx.1 hnx.2)
      have hxd := Lib.hid (HSX.out.set (p := ⟨gs, nthN o k, none⟩) hgs2.out (.bool true))
      obtain ⟨a1, rfl, hk1⟩ := HR.out (nthN o k) hin
      have hc1 := Lib.hid (hk1 _ (hx2.trans hxd.out))
      have hk0 : (0 : Int) ≤ (k : Int) := by omega
      have hk1' : (k : Int) < (n : Int) := by omega
      have hi0 : (0 : Int) ≤ (nthN o k : Int) := by omega
      have hi1 : (nthN o k : Int) < (n : Int) := by omega
      have hst := Lib.hid (fun u (hu : u + 1 = k) => srt_step HS.out u (by rw [HL.out]; omega))
      have h2d := Lib.hid ((HR2.out.ext hxd.out).2 k (by rw [hni.out]; exact hlt))
      have hsd := Lib.hid (show Seen w2 (wr.setCell ⟨gs, nthN o k, none⟩ (.bool true)) gs o (k + 1) from ⟨hxd.out, hs2.out⟩)
      have hnk := Lib.hid (natI_nth o k (by rw [HL.out]; exact hlt))
      clear hk1
      rcases Nat.eq_zero_or_pos k with h0 | h0
      · subst h0
        have hgt : decide ((0 : Int) < 0) = false := by simp
        rw [show ((0 : Nat) : Int) = 0 from rfl]
        rw [add_zero] at h2
        go_wp2
        (refine wp_region_quiet_lit (by kernel_rfl) (by kernel_rfl) ?_; (iterate 50 (any_goals (first | go_big_quiet_step (fail) | quiet_step (fail)))); all_goals (refine wpQuiet_nil ?_; intro _ hw'; obtain ⟨nq, hw''⟩ := hw'; subst hw''))
        go_wp2
        go_roundw
        case rel => exact ⟨1, by omega, by go_num, ⟨hsd.out.ext.drewN _, hsd.out.row.ext ((Ext.refl _).drewN _)⟩⟩
        case measure => simp [intOf]; omega
      · obtain ⟨u, hku⟩ : ∃ u, k = u + 1 := ⟨k - 1, by omega⟩
        have haft := hst.out u hku.symm
        have hinu := HS.out.lt (nthN_mem o u (by rw [HL.out]; omega))
        have hgt : decide ((0 : Int) < (k : Int)) = true := decide_eq_true (by omega)
        have hw1 : IntKind.i64.wrap ((k : Int) - 1) = (u : Int) := by rw [show (k : Int) - 1 = (u : Int) by omega]; exact IntWalk.i64_in _ (by omega)
        have hu0 : (0 : Int) ≤ (u : Int) := by omega
        have hu1 : (u : Int) < (n : Int) := by omega
        have hj0 : (0 : Int) ≤ (nthN o u : Int) := by omega
        have hj1 : (nthN o u : Int) < (n : Int) := by omega
        rw [← hku] at haft
        have hcu := Lib.hid ((HR2.out.ext hxd.out).2 u (by rw [hni.out]; omega))
        have hnu := Lib.hid (natI_nth o u (by rw [HL.out]; omega))
        have hky := Lib.hid (HR.out (nthN o u) hinu)
        clear hku
        have HW1 := Lib.hid hw1; clear hw1
        go_wp2
        have hw1 := HW1.out; clear HW1
        obtain ⟨_, e1, hcx⟩ := h2d.out
        injection e1 with e1; subst e1
        obtain ⟨_, e1, hcy⟩ := hcu.out
        injection e1 with e1; subst e1
        obtain ⟨_, e1, hky2⟩ := hky.out
        injection e1 with e1; subst e1
        have hkd := hky2 _ (hx2.trans hxd.out)
        have hkx := hc1.out
        rw [hnk.out] at hcx
        rw [hnu.out] at hcy
        have HSD := Lib.hid hsd.out
        clear h2d hcu hky hky2 hc1 hsd h2 h3 h4 hs2 hxd
        generalize wr.setCell ⟨gs, nthN o k, none⟩ (.bool true) = wd at *
        generalize nthN o k = x at *
        generalize nthN o u = y at *
        have hsd := HSD.out
        clear HSD
        rcases haft with hlt2 | ⟨heq, hlt2⟩
        · have hg1 : decide (key x < key y) = false := decide_eq_false (by omega)
          have hg2 : ((key y : Int) == (key x : Int)) = false := by rw [beq_eq_false_iff_ne]; omega
          (refine wp_region_quiet_lit (by kernel_rfl) (by kernel_rfl) ?_; (iterate 50 (any_goals (first | go_big_quiet_step (fail) | quiet_step (fail)))); all_goals (refine wpQuiet_nil ?_; intro _ hw'; obtain ⟨nq, hw''⟩ := hw'; subst hw''))
          clear hg1 hg2 hw1 hgt
          go_wp2
          go_roundw
          case rel => exact ⟨k + 1, by omega, by go_num, ⟨hsd.ext.drewN _, hsd.row.ext ((Ext.refl _).drewN _)⟩⟩
          case measure => simp [intOf]; omega
        · have hg1 : decide (key x < key y) = false := decide_eq_false (by omega)
          have hg2 : ((key y : Int) == (key x : Int)) = true := by rw [beq_iff_eq]; omega
          have hg3 : decide (x < y) = false := decide_eq_false (by omega)
          (refine wp_region_quiet_lit (by kernel_rfl) (by kernel_rfl) ?_; (iterate 50 (any_goals (first | go_big_quiet_step (fail) | quiet_step (fail)))); all_goals (refine wpQuiet_nil ?_; intro _ hw'; obtain ⟨nq, hw''⟩ := hw'; subst hw''))
          clear hg1 hg2 hg3 hw1 hgt
          go_wp2
          go_roundw
          case rel => exact ⟨k + 1, by omega, by go_num, ⟨hsd.ext.drewN _, hsd.row.ext ((Ext.refl _).drewN _)⟩⟩
          case measure => simp [intOf]; omega
    · go_wp2_with (go_at_call 14; (with_reducible refine (alive17_any _).mono ?_); rintro e w' ⟨rfl, hx⟩)
      go_ret
      exact ⟨ret_eq rfl, (hx2.trans HSX.out).trans (by assumption)⟩
theorem bounds_u64 {n : Int} (h : (Lit.int .u64 n).wf = true) : 0 ≤ n ∧ n < 18446744073709551616 := by
  simp only [Lit.wf, IntKind.min, IntKind.max, IntKind.signed, IntKind.bits, Bool.and_eq_true, decide_eq_true_eq] at h
  obtain ⟨h1, h2⟩ := h
  constructor
  · simpa using h1
  · have : n ≤ 2 ^ 64 - 1 := by simpa using h2
    omega
end Go.Proofs.Ytkepmkdnmmofmaa
