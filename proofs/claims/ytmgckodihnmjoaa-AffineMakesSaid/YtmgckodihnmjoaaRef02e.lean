/-
  The reference of layer 2: the least, or the greatest, of each place; walked. Conditions: the slice lies in memory.
-/
import Derived.Test.YtmgckodihnmjoaaRef02a
set_option linter.unusedVariables false
set_option linter.unusedSimpArgs false
namespace Go.Proofs.Ytmgckodihnmjoaa
open Go.RowKit

theorem add_twice (a : Addr) (i j : Nat) : (a.add i).add j = a.add (i + j) := by
  unfold Addr.add
  by_cases hi : i = 0 <;> by_cases hj : j = 0 <;> simp [hi, hj, Nat.add_assoc]
theorem colL_nth (f : Nat → Nat → Int) (k n i : Nat) (h : i < n) : nth (colL f k n) i = f i k := by
  rw [nth_get _ _ (by rw [colL_len]; exact h)]
  induction n with
  | zero => omega
  | succ n ih =>
    rcases Nat.lt_or_ge i n with h1 | h1
    · have := ih h1
      simp only [colL]
      rw [List.getElem_append_left (by rw [colL_len]; exact h1)]
      exact this
    · obtain rfl : i = n := by omega
      simp [colL, colL_len]
/-- Three numbers in a block. -/
structure Row3 (w : World) (g : Nat) (v : Nat → Int) : Prop where mk :: (out : Lies w g #[.int .i64 (v 0), .int .i64 (v 1), .int .i64 (v 2)] 24)
theorem Row3.at_ {w : World} {g : Nat} {v : Nat → Int} (h : Row3 w g v) (k : Nat) (hk : k < 3) : w.cell? ⟨g, k, none⟩ = some (.int .i64 (v k)) ∧ w.frozen? ⟨g, k, none⟩ = false := by
  obtain rfl | rfl | rfl : k = 0 ∨ k = 1 ∨ k = 2 := by omega
  · exact h.out.at_ 0 _ rfl
  · exact h.out.at_ 1 _ rfl
  · exact h.out.at_ 2 _ rfl
def updI (v : Nat → Int) (k : Nat) (x : Int) (j : Nat) : Int := if j = k then x else v j
theorem Row3.set {w : World} {g : Nat} {v : Nat → Int} (h : Row3 w g v) (k : Nat) (hk : k < 3) (x : Int) : Row3 (w.setCell ⟨g, k, none⟩ (.int .i64 x)) g (updI v k x) := by
  obtain rfl | rfl | rfl : k = 0 ∨ k = 1 ∨ k = 2 := by omega
  · exact ⟨h.out.set 0 _⟩
  · exact ⟨h.out.set 1 _⟩
  · exact ⟨h.out.set 2 _⟩
theorem Row3.ext {w w' : World} {g : Nat} {v : Nat → Int} (h : Row3 w g v) (hx : Ext w w') : Row3 w' g v := ⟨h.out.ext hx⟩
theorem Row3.congr {w : World} {g : Nat} {v u : Nat → Int} (h : Row3 w g v) (e : ∀ k, k < 3 → v k = u k) : Row3 w g u := by
  refine ⟨?_⟩
  rw [← e 0 (by decide), ← e 1 (by decide), ← e 2 (by decide)]
  exact h.out
structure Edge2 (w w' : World) (gr go : Nat) (v : Nat → Int) : Prop where
  ext : Ext w w'
  res : Lies w' gr #[.int .i64 0, .int .i64 0, .int .i64 0] 24
  row : Row3 w' go v
theorem Edge2.next {w w' w2 : World} {gr go : Nat} {v : Nat → Int} (h : Edge2 w w' gr go v) (hx : Ext w' w2) : Edge2 w w2 gr go v := ⟨h.ext.trans hx, h.res.ext hx, h.row.ext hx⟩
theorem Edge2.set {w w' : World} {gr go : Nat} {v : Nat → Int} (h : Edge2 w w' gr go v) (hg : w.heap.size ≤ go) (hne : go ≠ gr) (k : Nat) (hk : k < 3) (x : Int) : Edge2 w (w'.setCell ⟨go, k, none⟩ (.int .i64 x)) gr go (updI v k x) :=
  ⟨h.ext.set hg _, h.res.other hne k _, h.row.set k hk x⟩
theorem Edge2.congr {w w' : World} {gr go : Nat} {v u : Nat → Int} (h : Edge2 w w' gr go v) (e : ∀ k, k < 3 → v k = u k) : Edge2 w w' gr go u := ⟨h.ext, h.res, h.row.congr e⟩
/-- What stands in the midst of a row: the first places are done. -/
def midV (a b : Nat → Int) (k j : Nat) : Int := if j < k then b j else a j
theorem midV_0 (a b : Nat → Int) : midV a b 0 = a := by funext j; simp [midV]
theorem midV_at (a b : Nat → Int) (k : Nat) : midV a b k k = a k := by simp [midV]
theorem midV_upd (a b : Nat → Int) (k : Nat) : updI (midV a b k) k (b k) = midV a b (k + 1) := by
  funext j
  unfold updI midV
  by_cases h : j = k
  · subst h; simp
  · by_cases h2 : j < k
    · simp [h, h2, show j < k + 1 by omega]
    · simp [h, h2, show ¬ j < k + 1 by omega]
theorem midV_same (a b : Nat → Int) (k : Nat) (h : b k = a k) : midV a b k = midV a b (k + 1) := by
  funext j
  unfold midV
  by_cases h1 : j = k
  · subst h1; simp [h]
  · by_cases h2 : j < k
    · simp [h2, show j < k + 1 by omega]
    · simp [h2, show ¬ j < k + 1 by omega]
theorem midV_3 (a b : Nat → Int) : ∀ k, k < 3 → midV a b 3 k = b k := fun k hk => by simp [midV, hk]
def edgeV (most : Bool) (f : Nat → Nat → Int) (n i k : Nat) : Int := if most then maxTo (colL f k n) i else minTo (colL f k n) i
theorem edge_0 (most : Bool) (f : Nat → Nat → Int) (n k : Nat) : edgeV most f n 0 k = 0 := by cases most <;> rfl
theorem edge_first (most : Bool) (f : Nat → Nat → Int) (n k : Nat) (h : 0 < n) : edgeV most f n 1 k = f 0 k := by
  cases most <;> simp [edgeV, minTo, maxTo, colL_nth f k n 0 h]
theorem edge_min (f : Nat → Nat → Int) (n i k : Nat) (h : i < n) (h0 : 0 < i) : edgeV false f n (i + 1) k = if f i k < edgeV false f n i k then f i k else edgeV false f n i k := by
  simp only [edgeV, minTo, Bool.false_eq_true, if_false]
  rw [if_neg (by omega), colL_nth f k n i h]
theorem edge_max (f : Nat → Nat → Int) (n i k : Nat) (h : i < n) (h0 : 0 < i) : edgeV true f n (i + 1) k = if edgeV true f n i k < f i k then f i k else edgeV true f n i k := by
  simp only [edgeV, maxTo, if_true]
  rw [if_neg (by omega), colL_nth f k n i h]
set_option maxRecDepth 20000 in
set_option maxHeartbeats 4000000 in
theorem rvedge_any (A : Option Addr) (c n : Nat) (f : Nat → Nat → Int) (most : Bool) (w : World) (h : RdM 3 w A n f) (hn : n ≤ 1000000) : Calls Try.prog 28 #[.slice A n c, .bool most] w (RetV0 w (edgeV most f n n 0) (edgeV most f n n 1) (edgeV most f n n 2)) := by
  have H := Lib.hid h; clear h
  have hl0 : w.heap.size ≤ w.heap.size := by omega
  have hl1 : w.heap.size ≤ w.heap.size + 1 := by omega
  have hl2 : w.heap.size + 1 ≠ w.heap.size := by omega
  have hs : Edge2 w ((w.alloc (.cells #[.int .i64 0, .int .i64 0, .int .i64 0] 24)).alloc (.cells #[.int .i64 0, .int .i64 0, .int .i64 0] 24)) w.heap.size (w.heap.size + 1) (edgeV most f n 0) :=
    ⟨((Ext.refl _).alloc _).alloc _, (Lies.new w _ _ _ rfl).ext ((Ext.refl _).alloc _), by
      refine ⟨?_⟩
      rw [edge_0, edge_0, edge_0]
      exact Lies.new _ _ _ (w.heap.size + 1) (by simp)⟩
  have HS := Lib.hid hs; clear hs
  go_enter Try.func28, Try.ntmps28
  go_wp2
  go_loopw [6, 7] (fun i _ wr => ∃ m : Nat, m ≤ n ∧ i = .int .i64 m ∧ Edge2 w wr w.heap.size (w.heap.size + 1) (edgeV most f n m)) (fun i _ _ => n - (intOf i).toNat)
  case atStart => exact ⟨0, by omega, rfl, HS.out⟩
  case round =>
    obtain ⟨i, hi, rfl, he⟩ := hrel
    obtain ⟨wo, rfl⟩ : ∃ wo : World, wo = wr := ⟨_, rfl⟩
    have HE := Lib.hid he; clear he
    by_cases hlt : i < n
    · obtain ⟨ad, rfl, hcl0⟩ := H.out.2 i hlt
      have HCL : Hid (∀ j, j < 3 → ∀ w', Ext w w' → w'.cell? ((ad.add (i * 3)).add j) = some (.int .i64 (f i j))) := fun j hj w' hx => by rw [add_twice]; exact hx.cell (hcl0 j hj)
      clear hcl0
      have hm0 := Lib.hid (midV_0 (edgeV most f n i) (edgeV most f n (i + 1)))
      go_wp2
      go_loopw [7] (fun k wr => ∃ m : Nat, m ≤ 3 ∧ k = .int .i64 m ∧ Edge2 w wr w.heap.size (w.heap.size + 1) (midV (edgeV most f n i) (edgeV most f n (i + 1)) m)) (fun k _ => 3 - (intOf k).toNat)
      case atStart => exact ⟨0, by omega, rfl, by rw [hm0.out]; exact HE.out⟩
      case round =>
        obtain ⟨k, hk, rfl, he⟩ := hrel
        have HM := Lib.hid he
        by_cases hk3 : k < 3
        · have c1 := HCL.out k hk3 wr he.ext
          obtain ⟨c2, c3⟩ := he.row.at_ k hk3
          rw [midV_at] at c2
          have hset := Lib.hid (fun (w' : World) (hx : Ext wr w') x => (he.next hx).set hl1 hl2 k hk3 x)
          have hnext := Lib.hid (fun (w' : World) (hx : Ext wr w') => he.next hx)
          clear he
          have hk0 : (0 : Int) ≤ (k : Int) := by omega
          have hk1 : (k : Int) < 3 := by omega
          have hi0 : (0 : Int) ≤ (i : Int) := by omega
          have hi1 : (i : Int) < (n : Int) := by omega
          have hu := Lib.hid (midV_upd (edgeV most f n i) (edgeV most f n (i + 1)) k)
          have hsm := Lib.hid (midV_same (edgeV most f n i) (edgeV most f n (i + 1)) k)
          rcases Nat.eq_zero_or_pos i with hz | hz
          · have HV : Hid (edgeV most f n (i + 1) k = f i k) := by show _ = _; rw [hz]; exact edge_first most f n k (by omega)
            have hib : ((i : Int) == 0) = true := by rw [beq_iff_eq]; omega
            clear hz
            go_wp2
            (refine wp_region_quiet_lit (by kernel_rfl) (by kernel_rfl) ?_; (iterate 33 (any_goals (first | go_big_quiet_step (fail) | quiet_step (fail)))); all_goals (refine wpQuiet_nil ?_; intro _ hw'; obtain ⟨nq, hw''⟩ := hw'; subst hw''))
            clear hib
            go_wp2
            go_roundw
            case rel => exact ⟨k + 1, by omega, by go_num, by rw [← hu.out, HV.out]; exact hset.out _ ((Ext.refl _).drewN _) _⟩
            case measure => simp [intOf]; omega
          · have hib : ((i : Int) == 0) = false := by rw [beq_eq_false_iff_ne]; omega
            cases most
            · have hst := edge_min f n i k hlt hz
              by_cases hcmp : f i k < edgeV false f n i k
              · have HV : Hid (edgeV false f n (i + 1) k = f i k) := by show _ = _; rw [hst, if_pos hcmp]
                have hd : decide (f i k < edgeV false f n i k) = true := decide_eq_true hcmp
                clear hst hcmp hz
                go_wp2
                (refine wp_region_quiet_lit (by kernel_rfl) (by kernel_rfl) ?_; (iterate 33 (any_goals (first | go_big_quiet_step (fail) | quiet_step (fail)))); all_goals (refine wpQuiet_nil ?_; intro _ hw'; obtain ⟨nq, hw''⟩ := hw'; subst hw''))
                clear hib hd
                go_wp2
                go_roundw
                case rel => exact ⟨k + 1, by omega, by go_num, by rw [← hu.out, HV.out]; exact hset.out _ ((Ext.refl _).drewN _) _⟩
                case measure => simp [intOf]; omega
              · have HV : Hid (edgeV false f n (i + 1) k = edgeV false f n i k) := by show _ = _; rw [hst, if_neg hcmp]
                have hd : decide (f i k < edgeV false f n i k) = false := decide_eq_false hcmp
                clear hst hcmp hz
                go_wp2
                (refine wp_region_quiet_lit (by kernel_rfl) (by kernel_rfl) ?_; (iterate 33 (any_goals (first | go_big_quiet_step (fail) | quiet_step (fail)))); all_goals (refine wpQuiet_nil ?_; intro _ hw'; obtain ⟨nq, hw''⟩ := hw'; subst hw''))
                clear hib hd
                go_wp2
                go_roundw
                case rel => exact ⟨k + 1, by omega, by go_num, by rw [← hsm.out HV.out]; exact hnext.out _ ((Ext.refl _).drewN _)⟩
                case measure => simp [intOf]; omega
            · have hst := edge_max f n i k hlt hz
              by_cases hcmp : edgeV true f n i k < f i k
              · have HV : Hid (edgeV true f n (i + 1) k = f i k) := by show _ = _; rw [hst, if_pos hcmp]
                have hd : decide (edgeV true f n i k < f i k) = true := decide_eq_true hcmp
                clear hst hcmp hz
                go_wp2
                (refine wp_region_quiet_lit (by kernel_rfl) (by kernel_rfl) ?_; (iterate 33 (any_goals (first | go_big_quiet_step (fail) | quiet_step (fail)))); all_goals (refine wpQuiet_nil ?_; intro _ hw'; obtain ⟨nq, hw''⟩ := hw'; subst hw''))
                clear hib hd
                go_wp2
                go_roundw
                case rel => exact ⟨k + 1, by omega, by go_num, by rw [← hu.out, HV.out]; exact hset.out _ ((Ext.refl _).drewN _) _⟩
                case measure => simp [intOf]; omega
              · have HV : Hid (edgeV true f n (i + 1) k = edgeV true f n i k) := by show _ = _; rw [hst, if_neg hcmp]
                have hd : decide (edgeV true f n i k < f i k) = false := decide_eq_false hcmp
                clear hst hcmp hz
                go_wp2
                (refine wp_region_quiet_lit (by kernel_rfl) (by kernel_rfl) ?_; (iterate 33 (any_goals (first | go_big_quiet_step (fail) | quiet_step (fail)))); all_goals (refine wpQuiet_nil ?_; intro _ hw'; obtain ⟨nq, hw''⟩ := hw'; subst hw''))
                clear hib hd
                go_wp2
                go_roundw
                case rel => exact ⟨k + 1, by omega, by go_num, by rw [← hsm.out HV.out]; exact hnext.out _ ((Ext.refl _).drewN _)⟩
                case measure => simp [intOf]; omega
        · obtain rfl : 3 = k := by omega
          go_wp2
          go_roundw
          case rel => exact ⟨i + 1, by omega, by go_num, HM.out.congr (midV_3 _ _)⟩
          case measure => simp [intOf]; omega
    · obtain rfl : n = i := by omega
      obtain ⟨⟨b0, b1⟩, ⟨b2, b3⟩, b4, b5⟩ := HE.out.res.three
      obtain ⟨⟨b6, _⟩, ⟨b7, _⟩, b8, _⟩ := HE.out.row.out.three
      go_wp2
      have HZ := Lib.hid (show Lies _ w.heap.size #[.int .i64 (edgeV most f n n 0), .int .i64 (edgeV most f n n 1), .int .i64 (edgeV most f n n 2)] 24 from (((HE.out.res).set 0 (.int .i64 (edgeV most f n n 0))).set 1 (.int .i64 (edgeV most f n n 1))).set 2 (.int .i64 (edgeV most f n n 2)))
      have HXZ := Lib.hid (show Ext _ (((wo.setCell ⟨w.heap.size, 0, none⟩ (.int .i64 (edgeV most f n n 0))).setCell ⟨w.heap.size, 1, none⟩ (.int .i64 (edgeV most f n n 1))).setCell ⟨w.heap.size, 2, none⟩ (.int .i64 (edgeV most f n n 2))) from ((HE.out.ext.set hl0 _).set hl0 _).set hl0 _)
      generalize (((wo.setCell ⟨w.heap.size, 0, none⟩ (.int .i64 (edgeV most f n n 0))).setCell ⟨w.heap.size, 1, none⟩ (.int .i64 (edgeV most f n n 1))).setCell ⟨w.heap.size, 2, none⟩ (.int .i64 (edgeV most f n n 2))) = wz at *
      obtain ⟨⟨k0, _⟩, ⟨k1, _⟩, k2, _⟩ := HZ.out.three
      refine bodyPost_ret (v := .agg #[.int .i64 (edgeV most f n n 0), .int .i64 (edgeV most f n n 1), .int .i64 (edgeV most f n n 2)]) (by simp [results, Try.results28, go_sem, k0, k1, k2]) rfl ⟨?_, HXZ.out⟩
      rfl
end Go.Proofs.Ytmgckodihnmjoaa
