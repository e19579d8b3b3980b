/-
  slices.IndexFunc and slices.ContainsFunc over slices of structs of numbers, walked, for any predicate that only reads and makes. Conditions: the slice lies in memory. (Printed by tools/genidx.py.)
-/
import Derived.Test.YtmgckodihnmjoaaW5
import Derived.Test.YtmgckodihnmjoaaProg
set_option linter.unusedVariables false
set_option linter.unusedSimpArgs false
namespace Go.Proofs.Ytmgckodihnmjoaa
open Go.RowKit
set_option maxRecDepth 20000 in
set_option maxHeartbeats 1600000 in
theorem idxV_any (q : Nat → Bool) (w : World) (A : Option Addr) (c n : Nat) (f : Nat → Nat → Int) (h : RdM 3 w A n f)
    (hf : ∀ i, i < n → ∀ w1, Ext w w1 → Calls Try.prog 87 #[.agg #[.int .i64 (f i 0), .int .i64 (f i 1), .int .i64 (f i 2)]] w1 fun e w' => e = .returned (.bool (q i)) ∧ Ext w1 w') :
    Calls Try.prog 116 #[.slice A n c, .func (.func 87) #[] #[]] w fun e w' => e = .returned (.int .i64 (idxN q n)) ∧ Ext w w' := by
  obtain ⟨hlen, hr⟩ := h
  have HR := Lib.hid hr; clear hr
  have HF := Lib.hid hf; clear hf
  go_enter Try.func116, Try.ntmps116
  go_wp2
  go_loopw [5, 8] (fun _ i wr => ∃ k : Nat, k ≤ n ∧ i = .int .i64 k ∧ NoneN q k ∧ Ext w wr) (fun _ i _ => n - (intOf i).toNat)
  case atStart => exact ⟨0, by omega, rfl, noneN_zero _, Ext.refl _⟩
  case round =>
    obtain ⟨k, hk, rfl, hn, hx⟩ := hrel
    have HN := Lib.hid hn; clear hn
    by_cases hlt : k < n
    · obtain ⟨ad, rfl, hc⟩ := HR.out k hlt
      have hc := fun j hj => hx.cell (hc j hj)
      have c0 := el_0 (hc 0 (by decide))
      have c1 := el_s (hc 1 (by decide))
      have c2 := el_s (hc 2 (by decide))
      clear hc
      cases hq : q k
      · have hbs := Lib.hid (noneN_succ HN.out hq)
        go_wp2_with (go_at_call 87; refine (HF.out k hlt _ hx).mono ?_; rintro e w1 ⟨rfl, hx1⟩; rw [hq])
        go_roundw
        case rel => exact ⟨k + 1, by omega, by go_num, hbs.out, hx.trans hx1⟩
        case measure => simp [intOf]; omega
      · have hhit := Lib.hid (idxN_hit q n k hlt HN.out hq)
        go_wp2_with (go_at_call 87; refine (HF.out k hlt _ hx).mono ?_; rintro e w1 ⟨rfl, hx1⟩; rw [hq])
        go_ret
        refine ⟨ret_eq ?_, hx.trans hx1⟩
        rw [hhit.out]; rfl
    · obtain rfl : n = k := by omega
      have hmiss := Lib.hid (idxN_miss q n HN.out)
      go_wp2
      go_ret
      refine ⟨ret_eq ?_, hx⟩
      rw [hmiss.out]; rfl
set_option maxHeartbeats 400000 in
theorem containsV_any (q : Nat → Bool) (w : World) (A : Option Addr) (c n : Nat) (f : Nat → Nat → Int) (h : RdM 3 w A n f)
    (hf : ∀ i, i < n → ∀ w1, Ext w w1 → Calls Try.prog 87 #[.agg #[.int .i64 (f i 0), .int .i64 (f i 1), .int .i64 (f i 2)]] w1 fun e w' => e = .returned (.bool (!q i)) ∧ Ext w1 w') :
    Calls Try.prog 86 #[.slice A n c, .func (.func 87) #[] #[]] w fun e w' => e = .returned (.bool (!allN q n)) ∧ Ext w w' := by
  have H := Lib.hid h; clear h
  have HF := Lib.hid hf; clear hf
  have hi := Lib.hid (idx_all q n)
  go_enter Try.func86, Try.ntmps86
  go_wp2_with (go_at_call 116; refine (idxV_any (fun i => !q i) _ _ _ _ _ H.out HF.out).mono ?_; rintro e w' ⟨rfl, hx⟩)
  go_ret
  exact ⟨ret_eq (congrArg Value.bool hi.out), hx⟩
set_option maxRecDepth 20000 in
set_option maxHeartbeats 1600000 in
theorem idxM_any (q : Nat → Bool) (w : World) (A : Option Addr) (c n : Nat) (f : Nat → Nat → Int) (h : RdM 12 w A n f)
    (hf : ∀ i, i < n → ∀ w1, Ext w w1 → Calls Try.prog 100 #[.agg #[.int .i64 (f i 0), .int .i64 (f i 1), .int .i64 (f i 2), .int .i64 (f i 3), .int .i64 (f i 4), .int .i64 (f i 5), .int .i64 (f i 6), .int .i64 (f i 7), .int .i64 (f i 8), .int .i64 (f i 9), .int .i64 (f i 10), .int .i64 (f i 11)]] w1 fun e w' => e = .returned (.bool (q i)) ∧ Ext w1 w') :
    Calls Try.prog 120 #[.slice A n c, .func (.func 100) #[] #[]] w fun e w' => e = .returned (.int .i64 (idxN q n)) ∧ Ext w w' := by
  obtain ⟨hlen, hr⟩ := h
  have HR := Lib.hid hr; clear hr
  have HF := Lib.hid hf; clear hf
  go_enter Try.func120, Try.ntmps120
  go_wp2
  go_loopw [5, 8] (fun _ i wr => ∃ k : Nat, k ≤ n ∧ i = .int .i64 k ∧ NoneN q k ∧ Ext w wr) (fun _ i _ => n - (intOf i).toNat)
  case atStart => exact ⟨0, by omega, rfl, noneN_zero _, Ext.refl _⟩
  case round =>
    obtain ⟨k, hk, rfl, hn, hx⟩ := hrel
    have HN := Lib.hid hn; clear hn
    by_cases hlt : k < n
    · obtain ⟨ad, rfl, hc⟩ := HR.out k hlt
      have hc := fun j hj => hx.cell (hc j hj)
      have c0 := el_0 (hc 0 (by decide))
      have c1 := el_s (hc 1 (by decide))
      have c2 := el_s (hc 2 (by decide))
      have c3 := el_s (hc 3 (by decide))
      have c4 := el_s (hc 4 (by decide))
      have c5 := el_s (hc 5 (by decide))
      have c6 := el_s (hc 6 (by decide))
      have c7 := el_s (hc 7 (by decide))
      have c8 := el_s (hc 8 (by decide))
      have c9 := el_s (hc 9 (by decide))
      have c10 := el_s (hc 10 (by decide))
      have c11 := el_s (hc 11 (by decide))
      clear hc
      cases hq : q k
      · have hbs := Lib.hid (noneN_succ HN.out hq)
        go_wp2_with (go_at_call 100; refine (HF.out k hlt _ hx).mono ?_; rintro e w1 ⟨rfl, hx1⟩; rw [hq])
        go_roundw
        case rel => exact ⟨k + 1, by omega, by go_num, hbs.out, hx.trans hx1⟩
        case measure => simp [intOf]; omega
      · have hhit := Lib.hid (idxN_hit q n k hlt HN.out hq)
        go_wp2_with (go_at_call 100; refine (HF.out k hlt _ hx).mono ?_; rintro e w1 ⟨rfl, hx1⟩; rw [hq])
        go_ret
        refine ⟨ret_eq ?_, hx.trans hx1⟩
        rw [hhit.out]; rfl
    · obtain rfl : n = k := by omega
      have hmiss := Lib.hid (idxN_miss q n HN.out)
      go_wp2
      go_ret
      refine ⟨ret_eq ?_, hx⟩
      rw [hmiss.out]; rfl
set_option maxHeartbeats 400000 in
theorem containsM_any (q : Nat → Bool) (w : World) (A : Option Addr) (c n : Nat) (f : Nat → Nat → Int) (h : RdM 12 w A n f)
    (hf : ∀ i, i < n → ∀ w1, Ext w w1 → Calls Try.prog 100 #[.agg #[.int .i64 (f i 0), .int .i64 (f i 1), .int .i64 (f i 2), .int .i64 (f i 3), .int .i64 (f i 4), .int .i64 (f i 5), .int .i64 (f i 6), .int .i64 (f i 7), .int .i64 (f i 8), .int .i64 (f i 9), .int .i64 (f i 10), .int .i64 (f i 11)]] w1 fun e w' => e = .returned (.bool (!q i)) ∧ Ext w1 w') :
    Calls Try.prog 99 #[.slice A n c, .func (.func 100) #[] #[]] w fun e w' => e = .returned (.bool (!allN q n)) ∧ Ext w w' := by
  have H := Lib.hid h; clear h
  have HF := Lib.hid hf; clear hf
  have hi := Lib.hid (idx_all q n)
  go_enter Try.func99, Try.ntmps99
  go_wp2_with (go_at_call 120; refine (idxM_any (fun i => !q i) _ _ _ _ _ H.out HF.out).mono ?_; rintro e w' ⟨rfl, hx⟩)
  go_ret
  exact ⟨ret_eq (congrArg Value.bool hi.out), hx⟩
set_option maxRecDepth 20000 in
set_option maxHeartbeats 1600000 in
theorem idxB_any (q : Nat → Bool) (w : World) (A : Option Addr) (c n : Nat) (f : Nat → Nat → Int) (h : RdM 6 w A n f)
    (hf : ∀ i, i < n → ∀ w1, Ext w w1 → Calls Try.prog 103 #[.agg #[.int .i64 (f i 0), .int .i64 (f i 1), .int .i64 (f i 2), .int .i64 (f i 3), .int .i64 (f i 4), .int .i64 (f i 5)]] w1 fun e w' => e = .returned (.bool (q i)) ∧ Ext w1 w') :
    Calls Try.prog 121 #[.slice A n c, .func (.func 103) #[] #[]] w fun e w' => e = .returned (.int .i64 (idxN q n)) ∧ Ext w w' := by
  obtain ⟨hlen, hr⟩ := h
  have HR := Lib.hid hr; clear hr
  have HF := Lib.hid hf; clear hf
  go_enter Try.func121, Try.ntmps121
  go_wp2
  go_loopw [5, 8] (fun _ i wr => ∃ k : Nat, k ≤ n ∧ i = .int .i64 k ∧ NoneN q k ∧ Ext w wr) (fun _ i _ => n - (intOf i).toNat)
  case atStart => exact ⟨0, by omega, rfl, noneN_zero _, Ext.refl _⟩
  case round =>
    obtain ⟨k, hk, rfl, hn, hx⟩ := hrel
    have HN := Lib.hid hn; clear hn
    by_cases hlt : k < n
    · obtain ⟨ad, rfl, hc⟩ := HR.out k hlt
      have hc := fun j hj => hx.cell (hc j hj)
      have c0 := el_0 (hc 0 (by decide))
      have c1 := el_s (hc 1 (by decide))
      have c2 := el_s (hc 2 (by decide))
      have c3 := el_s (hc 3 (by decide))
      have c4 := el_s (hc 4 (by decide))
      have c5 := el_s (hc 5 (by decide))
      clear hc
      cases hq : q k
      · have hbs := Lib.hid (noneN_succ HN.out hq)
        go_wp2_with (go_at_call 103; refine (HF.out k hlt _ hx).mono ?_; rintro e w1 ⟨rfl, hx1⟩; rw [hq])
        go_roundw
        case rel => exact ⟨k + 1, by omega, by go_num, hbs.out, hx.trans hx1⟩
        case measure => simp [intOf]; omega
      · have hhit := Lib.hid (idxN_hit q n k hlt HN.out hq)
        go_wp2_with (go_at_call 103; refine (HF.out k hlt _ hx).mono ?_; rintro e w1 ⟨rfl, hx1⟩; rw [hq])
        go_ret
        refine ⟨ret_eq ?_, hx.trans hx1⟩
        rw [hhit.out]; rfl
    · obtain rfl : n = k := by omega
      have hmiss := Lib.hid (idxN_miss q n HN.out)
      go_wp2
      go_ret
      refine ⟨ret_eq ?_, hx⟩
      rw [hmiss.out]; rfl
set_option maxHeartbeats 400000 in
theorem containsB_any (q : Nat → Bool) (w : World) (A : Option Addr) (c n : Nat) (f : Nat → Nat → Int) (h : RdM 6 w A n f)
    (hf : ∀ i, i < n → ∀ w1, Ext w w1 → Calls Try.prog 103 #[.agg #[.int .i64 (f i 0), .int .i64 (f i 1), .int .i64 (f i 2), .int .i64 (f i 3), .int .i64 (f i 4), .int .i64 (f i 5)]] w1 fun e w' => e = .returned (.bool (!q i)) ∧ Ext w1 w') :
    Calls Try.prog 102 #[.slice A n c, .func (.func 103) #[] #[]] w fun e w' => e = .returned (.bool (!allN q n)) ∧ Ext w w' := by
  have H := Lib.hid h; clear h
  have HF := Lib.hid hf; clear hf
  have hi := Lib.hid (idx_all q n)
  go_enter Try.func102, Try.ntmps102
  go_wp2_with (go_at_call 121; refine (idxB_any (fun i => !q i) _ _ _ _ _ H.out HF.out).mono ?_; rintro e w' ⟨rfl, hx⟩)
  go_ret
  exact ⟨ret_eq (congrArg Value.bool hi.out), hx⟩
set_option maxRecDepth 20000 in
set_option maxHeartbeats 1600000 in
theorem idxP_any (q : Nat → Bool) (w : World) (A : Option Addr) (c n : Nat) (f : Nat → Nat → Int) (h : RdM 4 w A n f)
    (hf : ∀ i, i < n → ∀ w1, Ext w w1 → Calls Try.prog 105 #[.agg #[.int .i64 (f i 0), .int .i64 (f i 1), .int .i64 (f i 2), .int .i64 (f i 3)]] w1 fun e w' => e = .returned (.bool (q i)) ∧ Ext w1 w') :
    Calls Try.prog 122 #[.slice A n c, .func (.func 105) #[] #[]] w fun e w' => e = .returned (.int .i64 (idxN q n)) ∧ Ext w w' := by
  obtain ⟨hlen, hr⟩ := h
  have HR := Lib.hid hr; clear hr
  have HF := Lib.hid hf; clear hf
  go_enter Try.func122, Try.ntmps122
  go_wp2
  go_loopw [5, 8] (fun _ i wr => ∃ k : Nat, k ≤ n ∧ i = .int .i64 k ∧ NoneN q k ∧ Ext w wr) (fun _ i _ => n - (intOf i).toNat)
  case atStart => exact ⟨0, by omega, rfl, noneN_zero _, Ext.refl _⟩
  case round =>
    obtain ⟨k, hk, rfl, hn, hx⟩ := hrel
    have HN := Lib.hid hn; clear hn
    by_cases hlt : k < n
    · obtain ⟨ad, rfl, hc⟩ := HR.out k hlt
      have hc := fun j hj => hx.cell (hc j hj)
      have c0 := el_0 (hc 0 (by decide))
      have c1 := el_s (hc 1 (by decide))
      have c2 := el_s (hc 2 (by decide))
      have c3 := el_s (hc 3 (by decide))
      clear hc
      cases hq : q k
      · have hbs := Lib.hid (noneN_succ HN.out hq)
        go_wp2_with (go_at_call 105; refine (HF.out k hlt _ hx).mono ?_; rintro e w1 ⟨rfl, hx1⟩; rw [hq])
        go_roundw
        case rel => exact ⟨k + 1, by omega, by go_num, hbs.out, hx.trans hx1⟩
        case measure => simp [intOf]; omega
      · have hhit := Lib.hid (idxN_hit q n k hlt HN.out hq)
        go_wp2_with (go_at_call 105; refine (HF.out k hlt _ hx).mono ?_; rintro e w1 ⟨rfl, hx1⟩; rw [hq])
        go_ret
        refine ⟨ret_eq ?_, hx.trans hx1⟩
        rw [hhit.out]; rfl
    · obtain rfl : n = k := by omega
      have hmiss := Lib.hid (idxN_miss q n HN.out)
      go_wp2
      go_ret
      refine ⟨ret_eq ?_, hx⟩
      rw [hmiss.out]; rfl
set_option maxHeartbeats 400000 in
theorem containsP_any (q : Nat → Bool) (w : World) (A : Option Addr) (c n : Nat) (f : Nat → Nat → Int) (h : RdM 4 w A n f)
    (hf : ∀ i, i < n → ∀ w1, Ext w w1 → Calls Try.prog 105 #[.agg #[.int .i64 (f i 0), .int .i64 (f i 1), .int .i64 (f i 2), .int .i64 (f i 3)]] w1 fun e w' => e = .returned (.bool (!q i)) ∧ Ext w1 w') :
    Calls Try.prog 104 #[.slice A n c, .func (.func 105) #[] #[]] w fun e w' => e = .returned (.bool (!allN q n)) ∧ Ext w w' := by
  have H := Lib.hid h; clear h
  have HF := Lib.hid hf; clear hf
  have hi := Lib.hid (idx_all q n)
  go_enter Try.func104, Try.ntmps104
  go_wp2_with (go_at_call 122; refine (idxP_any (fun i => !q i) _ _ _ _ _ H.out HF.out).mono ?_; rintro e w' ⟨rfl, hx⟩)
  go_ret
  exact ⟨ret_eq (congrArg Value.bool hi.out), hx⟩
end Go.Proofs.Ytmgckodihnmjoaa
