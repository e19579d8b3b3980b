/-
  The package radix, the rest, and its reference, walked. Conditions: slices that are read lie in memory, and hold 64 bits each.
-/
import Derived.Test.YtkepmkdnmmofmaaRadix2
set_option linter.unusedVariables false
set_option linter.unusedSimpArgs false
namespace Go.Proofs.Ytkepmkdnmmofmaa
open Go.RowKit

def ordL (xs : List Int) : List Nat := dealt (keyN xs) (difs (keyN xs) xs.length 8) (List.range xs.length)
theorem ordL_srt {xs : List Int} (h : U64s xs) : Srt (keyN xs) xs.length (ordL xs) := dealt_srt _ _ (fun i _ => keyN_lt h i)
theorem ordL_len (xs : List Int) : (ordL xs).length = xs.length := by unfold ordL; rw [dealt_len, List.length_range]
theorem ordL_in {xs : List Int} {j : Nat} (h : j < xs.length) : nthN (ordL xs) j < xs.length := dealt_in h
def srtL (xs : List Int) : List Int := (ordL xs).map (fun i => nth xs i)
theorem srtL_len (xs : List Int) : (srtL xs).length = xs.length := by simp [srtL, ordL_len]
theorem srtL_next (xs : List Int) (k : Nat) (h : k < xs.length) : (srtL xs).take (k + 1) = (srtL xs).take k ++ [nth xs (nthN (ordL xs) k)] := by
  rw [List.take_succ_eq_append_getElem (by rw [srtL_len]; exact h)]
  simp [srtL, nthN_get (ordL xs) k (by rw [ordL_len]; exact h)]
theorem order_ord (A : Option Addr) (c : Nat) (xs : List Int) (w : World) (h : RdK .u64 w A xs) (hu : U64s xs) (hl : xs.length ≤ 1000) :
    Calls Try.prog 15 #[.slice A xs.length c] w (RetRow 3 .i64 w ((ordL xs).map Int.ofNat)) := order_any A c xs w h hu hl
attribute [local irreducible] ordL
set_option maxHeartbeats 1600000 in
theorem sorted_any (A : Option Addr) (c : Nat) (xs : List Int) (w : World) (h : RdK .u64 w A xs) (hu : U64s xs) (hl : xs.length ≤ 1000) :
    Calls Try.prog 17 #[.slice A xs.length c] w (RetRow 30 .u64 w (srtL xs)) := by
  have H := Lib.hid h; clear h
  have HU := Lib.hid hu; clear hu
  have hol := Lib.hid (ordL_len xs)
  go_enter Try.func17, Try.ntmps17
  go_wp2_with (go_at_call 15; (with_reducible refine (order_ord _ _ _ _ H.out HU.out hl).mono ?_); rintro e w1 ⟨vd, rfl, hvd, hx1⟩; obtain ⟨A2, c2, rfl, hr2, _⟩ := hvd.read; rw [List.length_map, hol.out])
  have hr3 := Lib.hid hr2; clear hr2 hvd
  go_loopw [3, 5, 9] (fun o _ i wr => ∃ k : Nat, k ≤ xs.length ∧ i = .int .i64 k ∧ Own 30 .u64 w1.heap.size wr o ((srtL xs).take k) ∧ Ext w1 wr) (fun _ _ i _ => xs.length - (intOf i).toNat)
  case atStart => exact ⟨0, by omega, rfl, Own.nil _ _ _ _, Ext.refl _⟩
  case round =>
    obtain ⟨k, hk, rfl, ho, hx⟩ := hrel
    by_cases hlt : k < xs.length
    · obtain ⟨ad2, rfl, hc2⟩ := (hr3.out.ext hx).2 k (by rw [List.length_map, hol.out]; exact hlt)
      rw [nth_nat _ _ (by rw [hol.out]; exact hlt)] at hc2
      have hin := ordL_in hlt
      obtain ⟨ad, rfl, hc⟩ := (H.out.ext (hx1.trans hx)).2 _ hin
      have hnx := Lib.hid (srtL_next xs k hlt)
      have hln : Hid ((((srtL xs).take k).length + 1) * 8 ≤ 140737488355328) := by
        show _ ≤ _
        rw [List.length_take]; omega
      generalize nthN (ordL xs) k = i at *
      go_wp2_with (at_builtin; refine app_one (w0 := w1) 8 Try.underlying22 rinfo_u64 (by decide) _ _ rfl rfl rfl ho hx hln.out ?_; intro v1 w2 ho1 hx2)
      go_roundw
      case rel => exact ⟨k + 1, by omega, by go_num, by rw [hnx.out]; exact ho1, hx2⟩
      case measure => simp [intOf]; omega
    · obtain rfl : xs.length = k := by omega
      rw [List.take_of_length_le (by rw [srtL_len]; omega)] at ho
      go_wp2
      go_ret
      exact ⟨_, rfl, ho.lower hx1.size, hx1.trans hx⟩
def passN (xs : List Int) : Nat := (difs (keyN xs) xs.length 8).length
theorem passes_any (A : Option Addr) (c : Nat) (xs : List Int) (w : World) (h : RdK .u64 w A xs) (hu : U64s xs) :
    Calls Try.prog 18 #[.slice A xs.length c] w fun e w' => e = .returned (.int .i64 (passN xs : Int)) ∧ Ext w w' := by
  have H := Lib.hid h; clear h
  have HU := Lib.hid hu; clear hu
  go_enter Try.func18, Try.ntmps18
  go_wp2_with (go_at_call 57; (with_reducible refine (deals_any _ _ _ _ H.out HU.out).mono ?_); rintro e w1 ⟨vd, rfl, hvd, hx1⟩; obtain ⟨A2, c2, rfl, hr2, _⟩ := hvd.read; rw [List.length_map])
  go_ret
  exact ⟨ret_eq rfl, hx1⟩
theorem difB_zero (key : Nat → Nat) (k : Nat) : difB key 0 k = false := rfl
theorem difB_one (key : Nat → Nat) (k : Nat) : difB key 1 k = false := by simp [difB]
theorem difB_succ (key : Nat → Nat) (n k : Nat) : difB key (n + 1) k = (difB key n k || dig key k n != dig key k 0) := by
  simp [difB, List.range_succ]
theorem passN_succ (key : Nat → Nat) (n k : Nat) : (difs key n (k + 1)).length = (difs key n k).length + (if difB key n k then 1 else 0) := by
  rw [difs_succ]; cases difB key n k <;> simp
theorem dig_cast (key : Nat → Nat) (k i : Nat) : (key i : Int) / 2 ^ (8 * k) % 256 = (dig key k i : Int) := by
  rw [dig_shr, show (256 : Int) = ((256 : Nat) : Int) from rfl, ← Int.natCast_emod]; rfl
set_option maxRecDepth 20000 in
set_option maxHeartbeats 1600000 in
theorem rpasses_any (A : Option Addr) (c : Nat) (xs : List Int) (w : World) (h : RdK .u64 w A xs) (hu : U64s xs) :
    Calls Try.prog 19 #[.slice A xs.length c] w fun e w' => e = .returned (.int .i64 (passN xs : Int)) ∧ Ext w w' := by
  obtain ⟨hlen, hr⟩ := h
  have hr2 : ∀ i, i < xs.length → ∃ ad, A = some ad ∧ w.cell? (ad.add i) = some (.int .u64 (keyN xs i : Int)) := fun i hi => by
    obtain ⟨ad, e, hc⟩ := hr i hi
    rw [keyN_eq hu i hi] at hc
    exact ⟨ad, e, hc⟩
  have HR := Lib.hid hr2; clear hr hr2
  have HK := Lib.hid (keyN_lt hu)
  have hP : Hid ((passN xs : Int) = ((difs (keyN xs) xs.length 8).length : Int)) := rfl
  rw [hP.out]
  clear hu hP
  generalize keyN xs = key at *
  generalize xs.length = n at *
  go_enter Try.func19, Try.ntmps19
  go_wp2
  go_loopw [3, 4, 5, 6] (fun m k _ _ wr => ∃ j : Nat, j ≤ 8 ∧ k = .int .i64 j ∧ m = .int .i64 ((difs key n j).length : Int) ∧ Drw w wr) (fun _ k _ _ _ => 8 - (intOf k).toNat)
  case atStart => exact ⟨0, by omega, rfl, rfl, Drw.refl _⟩
  case round =>
    obtain ⟨k, hk, rfl, rfl, hd⟩ := hrel
    obtain ⟨wo, rfl⟩ : ∃ wo : World, wo = wr := ⟨_, rfl⟩
    by_cases hk8 : k < 8
    · have hd1 := Lib.hid (difB_one key k)
      have hdl := difs_len key n k
      have hk8b : decide ((k : Int) < 8) = true := by simp; omega
      go_wp2
      go_loopw [5, 6] (fun s i wr => ∃ j : Nat, 1 ≤ j ∧ (j ≤ n ∨ j = 1) ∧ i = .int .i64 j ∧ s = .bool (!difB key j k) ∧ Drw w wr) (fun _ i _ => n - (intOf i).toNat)
      case atStart => exact ⟨1, by omega, .inr rfl, rfl, by rw [hd1.out]; rfl, hd⟩
      case round =>
        obtain ⟨j, hj1, hjn, rfl, rfl, hdw⟩ := hrel
        by_cases hlt : j < n
        · obtain ⟨ad, rfl, hc⟩ := HR.out j hlt
          obtain ⟨ad', he, hc0⟩ := HR.out 0 (by omega)
          injection he with he; subst he
          rw [add_zero, ← hdw.cell] at hc0
          rw [← hdw.cell] at hc
          have hn := Lib.hid (difB_succ key j k)
          have hm1 := dig_cast key k j
          have hm0 := dig_cast key k 0
          have hw1 : IntKind.i64.wrap (8 * (k : Int)) = 8 * (k : Int) := IntWalk.i64_in _ (by omega)
          have hw2 : IntKind.u64.wrap (8 * (k : Int)) = 8 * (k : Int) := wraps_u64 _ (by omega) (by omega)
          have hkk : (0 : Int) ≤ 8 * (k : Int) := by omega
          have hkk2 : (8 * (k : Int)).toNat = 8 * k := by omega
          cases hb : difB key j k
          · rw [hb] at hn
            by_cases hdd : dig key k j = dig key k 0
            · have hq : ((dig key k j : Int) == (dig key k 0 : Int)) = true := by rw [hdd]; exact beq_self_eq_true _
              have hn2 : Hid (difB key (j + 1) k = false) := by show _ = _; rw [hn.out, hdd]; simp
              clear hdd
              go_wp2
              (refine wp_region_quiet_lit (by kernel_rfl) (by kernel_rfl) ?_; (iterate 22 (any_goals (first | go_big_quiet_step (fail) | quiet_step (fail)))); all_goals (refine wpQuiet_nil ?_; intro _ hw'; obtain ⟨nq, hw''⟩ := hw'; subst hw''))
              clear hw1 hw2 hm1 hm0 hkk2 hq
              go_wp2
              go_roundw
              case rel => exact ⟨j + 1, by omega, by omega, by go_num, by rw [hn2.out]; rfl, hdw.step _⟩
              case measure => simp [intOf]; omega
            · have hq : ((dig key k j : Int) == (dig key k 0 : Int)) = false := by
                rw [beq_eq_false_iff_ne]; omega
              have hn2 : Hid (difB key (j + 1) k = true) := by show _ = _; rw [hn.out]; simpa using hdd
              clear hdd
              go_wp2
              (refine wp_region_quiet_lit (by kernel_rfl) (by kernel_rfl) ?_; (iterate 22 (any_goals (first | go_big_quiet_step (fail) | quiet_step (fail)))); all_goals (refine wpQuiet_nil ?_; intro _ hw'; obtain ⟨nq, hw''⟩ := hw'; subst hw''))
              clear hw1 hw2 hm1 hm0 hkk2 hq
              go_wp2
              go_roundw
              case rel => exact ⟨j + 1, by omega, by omega, by go_num, by rw [hn2.out]; rfl, hdw.step _⟩
              case measure => simp [intOf]; omega
          · rw [hb] at hn
            have hn2 : Hid (difB key (j + 1) k = true) := by show _ = _; rw [hn.out]; rfl
            clear hw1 hw2 hm1 hm0 hkk2
            rw [show (!true) = false from rfl]
            go_wp2
            (refine wp_region_quiet_lit (by kernel_rfl) (by kernel_rfl) ?_; (iterate 22 (any_goals (first | go_big_quiet_step (fail) | quiet_step (fail)))); all_goals (refine wpQuiet_nil ?_; intro _ hw'; obtain ⟨nq, hw''⟩ := hw'; subst hw''))
            go_wp2
            go_roundw
            case rel => exact ⟨j + 1, by omega, by omega, by go_num, by rw [hn2.out]; rfl, hdw.step _⟩
            case measure => simp [intOf]; omega
        · have hjn2 : difB key j k = difB key n k := by
            rcases Nat.lt_or_ge n j with h1 | h1
            · obtain rfl : j = 1 := by omega
              obtain rfl : n = 0 := by omega
              rw [hd1.out]; rfl
            · obtain rfl : n = j := by omega
              rfl
          have hn := Lib.hid (passN_succ key n k)
          have hdn := difs_len key n k
          cases hb : difB key n k
          · rw [hb] at hn hjn2
            rw [hjn2]
            go_wp2
            go_roundw
            case rel => exact ⟨k + 1, by omega, by go_num, by rw [hn.out]; rfl, hdw⟩
            case measure => simp [intOf]; omega
          · rw [hb] at hn hjn2
            rw [hjn2]
            go_wp2
            go_roundw
            case rel => exact ⟨k + 1, by omega, by go_num, by rw [hn.out]; go_num, hdw⟩
            case measure => simp [intOf]; omega
    · obtain rfl : 8 = k := by omega
      go_wp2
      go_ret
      exact ⟨ret_eq rfl, hd.ext⟩
end Go.Proofs.Ytkepmkdnmmofmaa
