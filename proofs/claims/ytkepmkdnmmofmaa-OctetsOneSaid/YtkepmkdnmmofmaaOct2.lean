/-
  The writer of layer 20, of the program and of its reference. Conditions: slices that are read lie in memory; not too long.
-/
import Derived.Test.YtkepmkdnmmofmaaOct
set_option linter.unusedVariables false
set_option linter.unusedSimpArgs false
namespace Go.Proofs.Ytkepmkdnmmofmaa
open Go.RowKit

/-- A writer at a block. -/
structure Wr (b : Nat) (w : World) (p : Nat) (v : Value) (xs : List Int) (bad : Bool) : Prop where
  ge : b ≤ p
  lies : Lies w p #[v, .bool bad] 61
  own : Own 5 .u8 b w v xs
  ne : v.ownBlock ≠ some p
/-- What a call may change. -/
def WF (p : Nat) (v : Value) (i : Nat) : Prop := i = p ∨ v.ownBlock = some i
def Fresh (v v' : Value) (n : Nat) : Prop := ∀ k, v'.ownBlock = some k → v.ownBlock = some k ∨ n ≤ k
theorem Wr.mark {b : Nat} {w : World} {p : Nat} {v : Value} {xs : List Int} {bad : Bool} (h : Wr b w p v xs bad) : Wr b (w.setCell ⟨p, 1, none⟩ (.bool true)) p v xs true :=
  ⟨h.ge, h.lies.set 1 _, h.own.chg ((Chg.refl (fun i => i = p) w).set p 1 (.inl rfl) _) (fun k hk he => h.ne (by rw [hk, he])), h.ne⟩
theorem Wr.put {b : Nat} {w w1 : World} {p : Nat} {v v1 : Value} {xs ys : List Int} {bad : Bool} (h : Wr b w p v xs bad) (ho : Own 5 .u8 b w1 v1 ys) (hc : Chg (fun i => v.ownBlock = some i) w w1) (hf : Fresh v v1 w.heap.size) : Wr b (w1.setCell ⟨p, 0, none⟩ v1) p v1 ys bad := by
  have hn : v1.ownBlock ≠ some p := by
    intro he
    rcases hf p he with h1 | h1
    · exact h.ne h1
    · have := h.lies.lt; omega
  exact ⟨h.ge, (h.lies.chg hc h.ne).set 0 _, ho.chg ((Chg.refl (fun i => i = p) w1).set p 0 (.inl rfl) _) (fun k hk he => hn (by rw [hk, he])), hn⟩
theorem Wr.at0 {b : Nat} {w w1 : World} {p : Nat} {v : Value} {xs : List Int} {bad : Bool} (h : Wr b w p v xs bad) (hc : Chg (fun i => v.ownBlock = some i) w w1) : w1.cell? ⟨p, 0, none⟩ = some v ∧ w1.frozen? ⟨p, 0, none⟩ = false := (h.lies.chg hc h.ne).at_ 0 v rfl
theorem Fresh.trans {u v v' : Value} {n m : Nat} (h : Fresh u v n) (k : Fresh v v' m) (hm : n ≤ m) : Fresh u v' n := by
  intro i hi
  rcases k i hi with h1 | h1
  · exact h i h1
  · right; omega
/-- A step that changes a writer's row and cell, ahead of which others did. -/
theorem Wr.step {b : Nat} {w0 w w1 : World} {p : Nat} {v0 v : Value} {xs : List Int} {bad : Bool} (h : Wr b w p v xs bad) (h0 : Chg (WF p v0) w0 w) (hf0 : Fresh v0 v w0.heap.size) (hc : Chg (fun i => v.ownBlock = some i) w w1) (u : Value) : Chg (WF p v0) w0 (w1.setCell ⟨p, 0, none⟩ u) := by
  refine Chg.set (h0.trans hc (fun i hi hv => ?_)) p 0 (.inl (.inl rfl)) u
  rcases hf0 i hv with h1 | h1
  · exact .inr h1
  · omega
def okW (n : Int) : Bool := decide (0 ≤ n) && decide (n ≤ 1099511627776)
def encF (ls : List Int) : Nat → List Int
  | 0 => []
  | k + 1 => encF ls k ++ (if okW (nth ls k) then oneN (nth ls k).toNat else [])
def badF (ls : List Int) : Nat → Bool
  | 0 => false
  | k + 1 => badF ls k || !okW (nth ls k)
theorem encF_length (ls : List Int) (k : Nat) : (encF ls k).length ≤ 6 * k := by
  induction k with
  | zero => simp [encF]
  | succ k ih =>
    simp only [encF, List.length_append]
    split
    · rename_i h
      simp only [okW, Bool.and_eq_true, decide_eq_true_eq] at h
      have := oneN_length (nth ls k).toNat 5 (by omega)
      omega
    · simp; omega
set_option maxRecDepth 20000 in
set_option maxHeartbeats 1600000 in
theorem put_any (b p : Nat) (A : Option Addr) (c : Nat) (v : Value) (ls xs : List Int) (bad : Bool) (w : World) (h : RdK .i64 w A ls) (hw : Wr b w p v xs bad) (hA : ∀ ad, A = some ad → 0 < ls.length → ¬ WF p v ad.block) (hl : xs.length + 6 * ls.length ≤ 140737488355000) :
    Calls Try.prog 43 #[.pointer (some ⟨p, 0, none⟩), .slice A ls.length c] w fun e w' => e = .returned (.pointer (some ⟨p, 0, none⟩)) ∧ ∃ v', Wr b w' p v' (xs ++ encF ls ls.length) (bad || badF ls ls.length) ∧ Chg (WF p v) w w' ∧ Fresh v v' w.heap.size := by
  have hlen := h.1
  have H := Lib.hid h; clear h
  have HW := Lib.hid hw; clear hw
  have HA := Lib.hid hA; clear hA
  go_enter Try.func43, Try.ntmps43
  go_wp2
  go_loopw [6, 11] (fun _ j wr => ∃ k : Nat, k ≤ ls.length ∧ j = .int .i64 k ∧ ∃ v', Wr b wr p v' (xs ++ encF ls k) (bad || badF ls k) ∧ Chg (WF p v) w wr ∧ Fresh v v' w.heap.size) (fun _ j _ => ls.length - (intOf j).toNat)
  case atStart => exact ⟨0, by omega, rfl, v, by simpa [encF, badF] using HW.out, Chg.refl _ _, fun k hk => .inl hk⟩
  case round =>
    obtain ⟨k, hk, rfl, v1, hw1, hc1, hf1⟩ := hrel
    have HW1 := Lib.hid hw1; clear hw1
    have HC1 := Lib.hid hc1; clear hc1
    have HF1 := Lib.hid hf1; clear hf1
    by_cases hlt : k < ls.length
    · obtain ⟨ad, hAe, hcell⟩ := (H.out.chg HC1.out HA.out).2 k hlt
      subst hAe
      have hE : Hid (encF ls (k + 1) = encF ls k ++ (if okW (nth ls k) then oneN (nth ls k).toNat else [])) := rfl
      have hB : Hid (badF ls (k + 1) = (badF ls k || !okW (nth ls k))) := rfl
      generalize hy : nth ls k = y at *
      have HY := Lib.hid hy; clear hy
      obtain ⟨hl0, hl0'⟩ := HW1.out.lies.at_ 0 v1 rfl
      obtain ⟨hl1, hl1'⟩ := HW1.out.lies.at_ 1 (.bool (bad || badF ls k)) rfl
      cases ho : okW y
      · rw [ho] at hE hB
        by_cases hneg : y < 0
        · go_wp2
          go_roundw
          case rel => exact ⟨k + 1, by omega, by go_num, v1, by rw [hE.out, hB.out]; simpa using HW1.out.mark, HC1.out.set _ _ (.inl (.inl rfl)) _, HF1.out⟩
          case measure => simp [intOf]; omega
        · have hbig : 1099511627776 < y := by simp only [okW, Bool.and_eq_false_iff, decide_eq_false_iff_not] at ho; omega
          go_wp2
          go_roundw
          case rel => exact ⟨k + 1, by omega, by go_num, v1, by rw [hE.out, hB.out]; simpa using HW1.out.mark, HC1.out.set _ _ (.inl (.inl rfl)) _, HF1.out⟩
          case measure => simp [intOf]; omega
      · rw [ho] at hE hB
        simp only [okW, Bool.and_eq_true, decide_eq_true_eq] at ho
        obtain ⟨hy0, hy1⟩ := ho
        have hm : ∃ m : Nat, y = m := ⟨y.toNat, by omega⟩
        obtain ⟨m0, rfl⟩ := hm
        have hz : Hid ((xs ++ encF ls k) ++ oneN m0 = xs ++ encF ls (k + 1)) := by show _ = _; rw [hE.out]; simp
        have hL := encF_length ls (k + 1)
        have hzl : ((xs ++ encF ls (k + 1)).length + 1) * 1 ≤ 140737488355328 := by simp only [List.length_append]; omega
        have HL := Lib.hid hzl; clear hzl hL
        have hbk : Hid (badF ls (k + 1) = badF ls k) := by show _ = _; rw [hB.out]; simp
        clear hl0 hl0' hl1 hl1'
        go_wp2
        go_loopw [6] (fun n wr2 => ∃ m : Nat, ∃ v2 zs, n = .int .i64 m ∧ Wr b wr2 p v2 zs (bad || badF ls k) ∧ zs ++ oneN m = xs ++ encF ls (k + 1) ∧ Chg (WF p v) w wr2 ∧ Fresh v v2 w.heap.size ∧ m ≤ 1099511627776) (fun n _ => (intOf n).toNat)
        case atStart => exact ⟨m0, v1, _, rfl, HW1.out, hz.out, HC1.out, HF1.out, by omega⟩
        case round =>
          obtain ⟨m, v2, zs, rfl, hw2, he2, hc2, hf2, hm⟩ := hrel
          obtain ⟨hl0, hl0'⟩ := hw2.lies.at_ 0 v2 rfl
          have hbs : Hid (b ≤ wr.heap.size) := by have := hw2.ge; have := hw2.lies.lt; show _ ≤ _; omega
          have hzz : Hid ((zs.length + 1) * 1 ≤ 140737488355328) := by
            have h1 := congrArg List.length he2
            have h2 := oneN_pos m
            have h3 := HL.out
            rw [List.length_append] at h1
            show _ ≤ _; omega
          have HW2 := Lib.hid hw2; clear hw2
          have HE2 := Lib.hid he2; clear he2
          have HC2 := Lib.hid hc2; clear hc2
          have HF2 := Lib.hid hf2; clear hf2
          by_cases hm2 : m < 128
          · have ho := Lib.hid (oneN_small hm2)
            have hmm : (m : Int) % 256 = m := by omega
            go_wp2_with (at_builtin; refine app_oneB (b := b) 1 Try.underlying33 Try.info5 (by decide) _ _ rfl rfl rfl HW2.out.own hbs.out hzz.out ?_; intro v3 w3 ho3 hc3 hf3; obtain ⟨ha, ha'⟩ := HW2.out.at0 hc3; have HF3 : Hid (Fresh v2 v3 wr.heap.size) := hf3; clear hf3; have HC3 := Lib.hid hc3; clear hc3; obtain ⟨A3, c3, rfl, _, _⟩ := ho3.read; rw [List.length_append, List.length_singleton] at ho3 HF3)
            rw [ho.out] at HE2
            rw [HE2.out] at ho3
            go_roundw
            case rel => exact ⟨k + 1, by omega, by go_num, _, by rw [hbk.out]; exact HW2.out.put ho3 HC3.out HF3.out, HW2.out.step HC2.out HF2.out HC3.out _, HF2.out.trans HF3.out HC2.out.size⟩
            case measure => simp [intOf]; omega
          · have ho := Lib.hid (oneN_big (n := m) (by omega))
            have hmm := or128 (n := (m : Int)) (by omega) (by omega)
            go_wp2_with (at_builtin; refine app_oneB (b := b) 1 Try.underlying33 Try.info5 (by decide) _ _ rfl rfl rfl HW2.out.own hbs.out hzz.out ?_; intro v3 w3 ho3 hc3 hf3; obtain ⟨ha, ha'⟩ := HW2.out.at0 hc3; have HF3 : Hid (Fresh v2 v3 wr.heap.size) := hf3; clear hf3; have HC3 := Lib.hid hc3; clear hc3; obtain ⟨A3, c3, rfl, _, _⟩ := ho3.read; rw [List.length_append, List.length_singleton] at ho3 HF3)
            go_roundw
            case rel => exact ⟨m / 128, _, zs ++ [128 + (m : Int) % 128], by go_num, HW2.out.put ho3 HC3.out HF3.out, by rw [← HE2.out, ho.out]; simp, HW2.out.step HC2.out HF2.out HC3.out _, HF2.out.trans HF3.out HC2.out.size, by omega⟩
            case measure => simp [intOf]; omega
    · obtain rfl : k = ls.length := by omega
      go_wp2
      go_ret
      exact ⟨ret_eq rfl, v1, HW1.out, HC1.out, HF1.out⟩

set_option maxHeartbeats 800000 in
theorem wbytes_any (b p : Nat) (v : Value) (xs : List Int) (bad : Bool) (w : World) (hw : Wr b w p v xs bad) (hl : xs.length ≤ 140737488355328) :
    Calls Try.prog 44 #[.pointer (some ⟨p, 0, none⟩)] w (RetOwnE 5 .u8 w (if bad then [] else xs) (if bad then 1 else 0)) := by
  obtain ⟨hl0, _⟩ := hw.lies.at_ 0 v rfl
  obtain ⟨hl1, _⟩ := hw.lies.at_ 1 (.bool bad) rfl
  obtain ⟨A1, c1, hv, hr, _⟩ := hw.own.read
  have HR := Lib.hid hr; clear hr
  clear hw
  subst hv
  cases bad
  · go_enter Try.func44, Try.ntmps44
    go_wp2_with (go_at_call 59; refine (cloneB_any _ _ _ _ HR.out hl).mono ?_; rintro e w1 ⟨v, rfl, ho, hx⟩)
    go_ret2
    exact ⟨_, rfl, ho, hx⟩
  · go_enter Try.func44, Try.ntmps44
    go_wp2
    go_ret2
    exact ⟨_, rfl, Own.nil _ _ _ _, Ext.refl _⟩
theorem wbytes_nil (w : World) : Calls Try.prog 44 #[.pointer none] w fun e w' => e = .returned (.tuple #[.slice none 0 0, .int .i64 1]) ∧ w = w' := by
  go_enter Try.func44, Try.ntmps44
  go_wp2
  go_ret2
  exact ⟨rfl, rfl⟩
theorem wput_nil (x : Value) (w : World) : Calls Try.prog 43 #[.pointer none, x] w fun e w' => e = .returned (.pointer none) ∧ w = w' := by
  go_enter Try.func43, Try.ntmps43
  go_wp2
  go_ret
  exact ⟨ret_eq rfl, rfl⟩
def putL (ls : List Int) : List Int := if badF ls ls.length then [] else encF ls ls.length
def putE (ls : List Int) : Int := if badF ls ls.length then 1 else 0
theorem badF_mono (ls : List Int) {j k : Nat} (h : j ≤ k) (hb : badF ls j = true) : badF ls k = true := by
  induction k with
  | zero =>
    obtain rfl : j = 0 := by omega
    exact hb
  | succ k ih =>
    rcases Nat.lt_or_ge j (k + 1) with h1 | h1
    · simp [badF, ih (by omega)]
    · obtain rfl : j = k + 1 := by omega
      exact hb
set_option maxRecDepth 20000 in
set_option maxHeartbeats 1600000 in
theorem rput_any (A : Option Addr) (c : Nat) (ls : List Int) (w : World) (h : RdK .i64 w A ls) (hl : ls.length ≤ 1000000) :
    Calls Try.prog 45 #[.slice A ls.length c] w (RetOwnE 5 .u8 w (putL ls) (putE ls)) := by
  have hlen := h.1
  have H := Lib.hid h; clear h
  go_enter Try.func45, Try.ntmps45
  go_wp2
  go_loopw [4, 5, 6] (fun o j _ wr => ∃ k : Nat, k ≤ ls.length ∧ j = .int .i64 k ∧ badF ls k = false ∧ Own 5 .u8 w.heap.size wr o (encF ls k) ∧ Ext w wr) (fun _ j _ _ => ls.length - (intOf j).toNat)
  case atStart => exact ⟨0, by omega, rfl, rfl, Own.nil _ _ _ _, Ext.refl _⟩
  case round =>
    obtain ⟨k, hk, rfl, hb, ho1, hx1⟩ := hrel
    by_cases hlt : k < ls.length
    · obtain ⟨ad, rfl, hcell⟩ := (H.out.ext hx1).2 k hlt
      have hE : Hid (encF ls (k + 1) = encF ls k ++ (if okW (nth ls k) then oneN (nth ls k).toNat else [])) := rfl
      have hB : Hid (badF ls (k + 1) = (badF ls k || !okW (nth ls k))) := rfl
      have hBt := badF_mono ls (show k + 1 ≤ ls.length by omega)
      have HBT := Lib.hid hBt; clear hBt
      rw [hb] at hB
      generalize hy : nth ls k = y at *
      have HY := Lib.hid hy; clear hy
      cases ho : okW y
      · rw [ho] at hE hB
        have hbt : Hid (badF ls ls.length = true) := HBT.out (by rw [hB.out]; rfl)
        by_cases hneg : y < 0
        · go_wp2
          go_ret2
          exact ⟨_, by rw [show putE ls = 1 by simp [putE, hbt.out]]; rfl, by rw [show putL ls = [] by simp [putL, hbt.out]]; exact Own.nil _ _ _ _, hx1⟩
        · have hbig : 1099511627776 < y := by simp only [okW, Bool.and_eq_false_iff, decide_eq_false_iff_not] at ho; omega
          go_wp2
          go_ret2
          exact ⟨_, by rw [show putE ls = 1 by simp [putE, hbt.out]]; rfl, by rw [show putL ls = [] by simp [putL, hbt.out]]; exact Own.nil _ _ _ _, hx1⟩
      · rw [ho] at hE hB
        simp only [okW, Bool.and_eq_true, decide_eq_true_eq] at ho
        obtain ⟨hy0, hy1⟩ := ho
        have hm : ∃ m : Nat, y = m := ⟨y.toNat, by omega⟩
        obtain ⟨m, rfl⟩ := hm
        have hq : Hid ((encF ls k).length + (oneN m).length ≤ 100000000) := by
          have h1 := encF_length ls k
          have h2 := oneN_length m 5 (by omega)
          show _ ≤ _; omega
        have hbf : Hid (badF ls (k + 1) = false) := by show _ = _; rw [hB.out]; rfl
        have hef : Hid (encF ls k ++ oneN m = encF ls (k + 1)) := by show _ = _; rw [hE.out]; simp
        go_wp2_with (first | (go_at_call 70; refine (one_any m _ (by omega)).mono ?_; rintro e w1 ⟨v1, rfl, ho2, hx2⟩; obtain ⟨A1, c1, rfl, hr2, _⟩ := ho2.read) | (at_builtin; refine app_row (w0 := w) 1 Try.underlying33 Try.info5 (by decide) _ _ (oneN m) A1 c1 rfl rfl (ho1.ext hx2) (hx1.trans hx2) hr2 (by have := hq.out; omega) ?_; intro v3 w3 ho3 hx3))
        go_roundw
        case rel => exact ⟨k + 1, by omega, by go_num, hbf.out, by rw [← hef.out]; exact ho3, hx3⟩
        case measure => simp [intOf]; omega
    · obtain rfl : k = ls.length := by omega
      have hbt := Lib.hid hb; clear hb
      go_wp2
      go_ret2
      exact ⟨_, by rw [show putE ls = 0 by simp [putE, hbt.out]]; rfl, by rw [show putL ls = encF ls ls.length by simp [putL, hbt.out]]; exact ho1, hx1⟩
end Go.Proofs.Ytkepmkdnmmofmaa
