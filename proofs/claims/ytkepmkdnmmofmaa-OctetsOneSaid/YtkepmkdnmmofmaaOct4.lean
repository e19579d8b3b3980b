/-
  Get of the reference of layer 20, walked. Conditions: slices that are read lie in memory; they are bytes.
-/
import Derived.Test.YtkepmkdnmmofmaaOct3
set_option linter.unusedVariables false
set_option linter.unusedSimpArgs false
namespace Go.Proofs.Ytkepmkdnmmofmaa
open Go.RowKit

theorem getB_fail {xs : List Int} {m : Int} (h : cnt xs < xs.length ∧ cnt xs ≤ 5 → False) : getB xs false m = true := by
  cases ho : numOk xs
  · simp [getB, ho]
  · exact (h (numOk_le ho)).elim
theorem getB_far {xs : List Int} {m : Int} (h1 : cnt xs < xs.length) (h2 : cnt xs ≤ 5) (hb : Bytes xs) : getB xs false m = (decide (1099511627776 < valTo xs (cnt xs + 1)) || decide (m < (valTo xs (cnt xs + 1) : Int)) || !decide ((oneN (valTo xs (cnt xs + 1))).length = cnt xs + 1)) := by
  have h3 := one_len xs hb (cnt_stop xs h1)
  by_cases h4 : (oneN (valTo xs (cnt xs + 1))).length = cnt xs + 1
  · have h5 := h3.1 h4
    by_cases h6 : valTo xs (cnt xs + 1) ≤ 1099511627776
    · have ho : numOk xs = true := by
        simp only [numOk, Bool.and_eq_true, decide_eq_true_eq, Bool.not_eq_true', Bool.and_eq_false_iff, decide_eq_false_iff_not]
        refine ⟨⟨⟨h1, h2⟩, h6⟩, ?_⟩
        by_cases h7 : 0 < cnt xs
        · exact .inr (fun h8 => h5 ⟨h7, h8⟩)
        · exact .inl h7
      simp [getB, ho, numV, h4]
      omega
    · have ho : numOk xs = false := by simp [numOk, h6]
      have h7 : 1099511627776 < valTo xs (cnt xs + 1) := by omega
      simp [getB, ho, h7]
  · have ho : numOk xs = false := by
      have h5 : 0 < cnt xs ∧ nth xs (cnt xs) = 0 := by
        by_cases h6 : 0 < cnt xs ∧ nth xs (cnt xs) = 0
        · exact h6
        · exact absurd (h3.2 h6) h4
      simp [numOk, h5.1, h5.2]
    simp [getB, ho, h4]
theorem getV_ok {xs : List Int} {m : Int} (h : getB xs false m = false) : getV xs false m = (valTo xs (cnt xs + 1) : Int) := by
  have ho : numOk xs = true := by
    cases ho : numOk xs
    · simp [getB, ho] at h
    · rfl
  simp [getV, h, numV, ho]
set_option maxRecDepth 20000 in
set_option maxHeartbeats 3200000 in
theorem rget_any (p : Nat) (A : Option Addr) (c : Nat) (xs : List Int) (f : Bool) (m : Int) (w : World) (h : Rd2 70 w p A c xs f) :
    Calls Try.prog 48 #[.pointer (some ⟨p, 0, none⟩), .int .i64 m] w fun e w' => e = .returned (.int .i64 (getV xs f m)) ∧ Got 70 p A xs f m w w' := by
  have H := Lib.hid h
  have hlen := h.row.1
  obtain ⟨hl0, hl0'⟩ := h.lies.at_ 0 _ rfl
  obtain ⟨hl1, hl1'⟩ := h.lies.at_ 1 _ rfl
  clear h
  go_enter Try.func48, Try.ntmps48
  go_wp2
  go_loop [5] (fun n => ∃ k : Nat, k ≤ xs.length ∧ n = .int .i64 k ∧ Grp xs k) (fun n => xs.length - (intOf n).toNat)
  case atStart => exact ⟨0, by omega, rfl, fun i hi => by omega⟩
  case round =>
    obtain ⟨k, hk, rfl, hg⟩ := hrel
    have HG := Lib.hid hg; clear hg
    by_cases hlt : k < xs.length
    · obtain ⟨ad, rfl, hc⟩ := H.out.row.2 k hlt
      obtain ⟨hn1, hn2⟩ := H.out.bytes.nth k
      generalize hy : nth xs k = y at *
      have HY := Lib.hid hy; clear hy
      by_cases hb : 128 ≤ y
      · have hg' : Hid (Grp xs (k + 1)) := by
          intro i hi
          rcases Nat.lt_or_ge i k with h1 | h1
          · exact HG.out i h1
          · obtain rfl : i = k := by omega
            rw [HY.out]; omega
        go_wp2
        go_round
        case rel => exact ⟨k + 1, by omega, by go_num, hg'.out⟩
        case measure => simp [intOf]; omega
      · have hcnt := cnt_eq HG.out hlt (by rw [HY.out]; omega)
        have HC := Lib.hid hcnt; clear hcnt
        cases f
        rotate_left
        · have hB : Hid (getB xs true m = true) := by show _ = _; simp [getB]
          go_wp2
          go_ret
          exact ⟨ret_eq (by simp [getV, hB.out]), some ad, c, by rw [hB.out, show getR xs true m = xs by simp [getR, hB.out]]; exact H.out.fail, chg_one _ _ _ _, SameBlk.refl _⟩
        · by_cases h5 : k ≤ 5
          rotate_left
          · have hB : Hid (getB xs false m = true) := getB_fail (fun h => by rw [HC.out] at h; omega)
            go_wp2
            go_ret
            exact ⟨ret_eq (by simp [getV, hB.out]), some ad, c, by rw [hB.out, show getR xs false m = xs by simp [getR, hB.out]]; exact H.out.fail, chg_one _ _ _ _, SameBlk.refl _⟩
          · go_wp2
            go_loop [6, 7] (fun x i => ∃ s : Nat, s ≤ k + 1 ∧ x = .int .i64 (hiT xs k s : Int) ∧ i = .int .i64 ((k : Int) - s)) (fun _ i => (intOf i + 1).toNat)
            case atStart => exact ⟨0, by omega, rfl, by simp⟩
            case round =>
              obtain ⟨s, hs, rfl, rfl⟩ := hrel
              by_cases hsk : s ≤ k
              · have hj : Hid (hiT xs k (s + 1) = 128 * hiT xs k s + (nth xs (k - s)).toNat % 128) := rfl
                obtain ⟨ad', hae, hcs⟩ := H.out.row.2 (k - s) (by omega)
                injection hae with hae
                have hb2 := H.out.bytes.nth (k - s)
                have hx1 := hiT_le xs k s hs h5
                have hx2 := hiT_le xs k (s + 1) (by omega) h5
                rw [hj.out] at hx2
                obtain ⟨hb3, hb4⟩ := hb2
                have hks : ((k - s : Nat) : Int) = (k : Int) - s := by omega
                clear hx1
                generalize nth xs (k - s) = z at *
                go_wp2
                go_round
                case rel => exact ⟨s + 1, by omega, by rw [hj.out]; go_num, by go_num⟩
                case measure => simp [intOf]; omega
              · obtain rfl : s = k + 1 := by omega
                have hX : hiT xs k (k + 1) = valTo xs (k + 1) := hiT_all xs k
                have hXl := hiT_le xs k (k + 1) hs h5
                have hF : Hid (getB xs false m = (decide (1099511627776 < valTo xs (k + 1)) || decide (m < (valTo xs (k + 1) : Int)) || !decide ((oneN (valTo xs (k + 1))).length = k + 1))) := by
                  have := getB_far (m := m) (by rw [HC.out]; omega) (by rw [HC.out]; exact h5) H.out.bytes
                  rw [HC.out] at this
                  exact this
                have hol := oneN_length (valTo xs (k + 1)) k (valTo_lt xs (k + 1))
                rw [hX] at hXl
                have hGV : Hid (getB xs false m = false → getV xs false m = (valTo xs (k + 1) : Int)) := fun h => by
                  have := getV_ok h
                  rwa [HC.out] at this
                rw [hX]
                clear hX
                generalize hx : valTo xs (k + 1) = X at *
                clear hx
                generalize hol2 : (oneN X).length = L at *
                have HOL := Lib.hid hol2; clear hol2
                by_cases q1 : 1099511627776 < X
                · have hB : Hid (getB xs false m = true) := by show _ = _; rw [hF.out]; simp [q1]
                  go_wp2_with (go_at_call 70; refine (one_any X _ (by omega)).mono ?_; rintro e w1 ⟨v1, rfl, ho1, hx1⟩; obtain ⟨hm0, hm0'⟩ := (H.out.ext hx1).lies.at_ 0 _ rfl; obtain ⟨hm1, hm1'⟩ := (H.out.ext hx1).lies.at_ 1 _ rfl; obtain ⟨A1, c1, rfl, _, _⟩ := ho1.read; rw [HOL.out])
                  go_ret
                  exact ⟨ret_eq (by simp [getV, hB.out]), some ad, c, by rw [hB.out, show getR xs false m = xs by simp [getR, hB.out]]; exact (H.out.ext hx1).fail, (hx1.chg _).trans (chg_one _ _ _ _) (fun _ _ h => h), SameBlk.refl _⟩
                · by_cases q2 : m < (X : Int)
                  · have hB : Hid (getB xs false m = true) := by show _ = _; rw [hF.out]; simp [q2]
                    go_wp2_with (go_at_call 70; refine (one_any X _ (by omega)).mono ?_; rintro e w1 ⟨v1, rfl, ho1, hx1⟩; obtain ⟨hm0, hm0'⟩ := (H.out.ext hx1).lies.at_ 0 _ rfl; obtain ⟨hm1, hm1'⟩ := (H.out.ext hx1).lies.at_ 1 _ rfl; obtain ⟨A1, c1, rfl, _, _⟩ := ho1.read; rw [HOL.out])
                    go_ret
                    exact ⟨ret_eq (by simp [getV, hB.out]), some ad, c, by rw [hB.out, show getR xs false m = xs by simp [getR, hB.out]]; exact (H.out.ext hx1).fail, (hx1.chg _).trans (chg_one _ _ _ _) (fun _ _ h => h), SameBlk.refl _⟩
                  · cases q3 : decide (L = k + 1)
                    · have hB : Hid (getB xs false m = true) := by show _ = _; rw [hF.out]; simp [q3]
                      have q4 : ((L : Int) != (k : Int) + 1) = true := by simp at q3 ⊢; omega
                      clear q3
                      go_wp2_with (go_at_call 70; refine (one_any X _ (by omega)).mono ?_; rintro e w1 ⟨v1, rfl, ho1, hx1⟩; obtain ⟨hm0, hm0'⟩ := (H.out.ext hx1).lies.at_ 0 _ rfl; obtain ⟨hm1, hm1'⟩ := (H.out.ext hx1).lies.at_ 1 _ rfl; obtain ⟨A1, c1, rfl, _, _⟩ := ho1.read; rw [HOL.out])
                      go_ret
                      exact ⟨ret_eq (by simp [getV, hB.out]), some ad, c, by rw [hB.out, show getR xs false m = xs by simp [getR, hB.out]]; exact (H.out.ext hx1).fail, (hx1.chg _).trans (chg_one _ _ _ _) (fun _ _ h => h), SameBlk.refl _⟩
                    · have hB : Hid (getB xs false m = false) := by show _ = _; rw [hF.out]; simp [q1, q2, q3]
                      have q4 : ((L : Int) != (k : Int) + 1) = false := by simp at q3 ⊢; omega
                      clear q3
                      have HV := Lib.hid (hGV.out hB.out)
                      have hR : Hid (getR xs false m = xs.drop (k + 1)) := by
                        show _ = _
                        rw [show getR xs false m = xs.drop (cnt xs + 1) by simp [getR, hB.out], HC.out]
                      have hcap := H.out.cap
                      by_cases hcc : c ≤ k + 1
                      · go_wp2_with (go_at_call 70; refine (one_any X _ (by omega)).mono ?_; rintro e w1 ⟨v1, rfl, ho1, hx1⟩; obtain ⟨hm0, hm0'⟩ := (H.out.ext hx1).lies.at_ 0 _ rfl; obtain ⟨hm1, hm1'⟩ := (H.out.ext hx1).lies.at_ 1 _ rfl; obtain ⟨A1, c1, rfl, _, _⟩ := ho1.read; rw [HOL.out])
                        go_ret
                        have hz : Hid (xs.drop (k + 1) = []) := List.drop_eq_nil_of_le (by omega)
                        refine ⟨ret_eq (by rw [HV.out]; rfl), some ad, 0, ?_, (hx1.chg _).trans (chg_one _ _ _ _) (fun _ _ h => h), SameBlk.refl _⟩
                        rw [hB.out, hR.out]
                        exact (H.out.ext hx1).next (k + 1) (some ad) 0 (by omega) (by rw [hz.out]; exact ⟨by simp, fun i hi => by simp at hi⟩) (SameBlk.refl _) (by omega)
                      · go_wp2_with (go_at_call 70; refine (one_any X _ (by omega)).mono ?_; rintro e w1 ⟨v1, rfl, ho1, hx1⟩; obtain ⟨hm0, hm0'⟩ := (H.out.ext hx1).lies.at_ 0 _ rfl; obtain ⟨hm1, hm1'⟩ := (H.out.ext hx1).lies.at_ 1 _ rfl; obtain ⟨A1, c1, rfl, _, _⟩ := ho1.read; rw [HOL.out])
                        go_ret
                        refine ⟨ret_eq (by rw [HV.out]; rfl), some ⟨ad.block, ad.off + (k + 1), none⟩, c - (k + 1), ?_, (hx1.chg _).trans (chg_one _ _ _ _) (fun _ _ h => h), sb1 ad (ad.off + (k + 1))⟩
                        rw [hB.out, hR.out]
                        exact (H.out.ext hx1).next (k + 1) (some ⟨ad.block, ad.off + (k + 1), none⟩) _ (by omega) (rdK_drop' (H.out.ext hx1).row _) (sb1 _ _) (by omega)
    · obtain rfl : k = xs.length := by omega
      have hcnt := cnt_all HG.out
      have HC := Lib.hid hcnt; clear hcnt
      cases f
      · have hB : Hid (getB xs false m = true) := getB_fail (fun h => by rw [HC.out] at h; omega)
        go_wp2
        go_ret
        exact ⟨ret_eq (by simp [getV, hB.out]), A, c, by rw [hB.out, show getR xs false m = xs by simp [getR, hB.out]]; exact H.out.fail, chg_one _ _ _ _, SameBlk.refl _⟩
      · have hB : Hid (getB xs true m = true) := by show _ = _; simp [getB]
        go_wp2
        go_ret
        exact ⟨ret_eq (by simp [getV, hB.out]), A, c, by rw [hB.out, show getR xs true m = xs by simp [getR, hB.out]]; exact H.out.fail, chg_one _ _ _ _, SameBlk.refl _⟩
end Go.Proofs.Ytkepmkdnmmofmaa
