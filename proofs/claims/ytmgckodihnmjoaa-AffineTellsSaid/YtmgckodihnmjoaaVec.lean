/-
  The package vec: whether vectors may be; numbers of one place; a vector made place by place; walked. Conditions: slices that are read lie in memory.
-/
import Derived.Test.YtmgckodihnmjoaaIdx
import Derived.Test.YtmgckodihnmjoaaFix2
set_option linter.unusedVariables false
set_option linter.unusedSimpArgs false
namespace Go.Proofs.Ytmgckodihnmjoaa
open Go.RowKit

theorem right_lit3 (x y z : Int) (w : World) (t n : Nat) (hn : n = w.heap.size) : Calls Try.prog 85 #[.slice (some ⟨n, 0, none⟩) 3 3] (w.alloc (.cells #[.int .i64 x, .int .i64 y, .int .i64 z] t)) fun e w' => e = .returned (.bool (rightL [x, y, z])) ∧ w.alloc (.cells #[.int .i64 x, .int .i64 y, .int .i64 z] t) = w' :=
  right_any _ 3 [x, y, z] _ (rdK_lit .i64 w [x, y, z] t (0, 0) (by simp) n hn)
def vecB (f : Nat → Nat → Int) (i : Nat) : Bool := rightL [f i 0, f i 1, f i 2]
def vecsB (f : Nat → Nat → Int) (n : Nat) : Bool := allN (vecB f) n
set_option maxHeartbeats 400000 in
theorem vright1_any (x y z : Int) (w : World) : Calls Try.prog 87 #[.agg #[.int .i64 x, .int .i64 y, .int .i64 z]] w fun e w' => e = .returned (.bool (!rightL [x, y, z])) ∧ Ext w w' := by
  go_enter Try.func87, Try.ntmps87
  go_wp2_with (go_at_call 85; (with_reducible refine (right_lit3 _ _ _ _ _ _ rfl).mono ?_); rintro e w' ⟨rfl, rfl⟩)
  go_ret
  exact ⟨rfl, (Ext.refl _).alloc _⟩
set_option maxHeartbeats 400000 in
theorem vright_any (A : Option Addr) (c n : Nat) (f : Nat → Nat → Int) (w : World) (h : RdM 3 w A n f) : Calls Try.prog 22 #[.slice A n c] w fun e w' => e = .returned (.bool (vecsB f n)) ∧ Ext w w' := by
  have H := Lib.hid h; clear h
  go_enter Try.func22, Try.ntmps22
  go_wp2_with (go_at_call 86; (refine (containsV_any (vecB f) _ _ _ _ f H.out (fun i _ w1 _ => vright1_any _ _ _ _)).mono ?_); rintro e w' ⟨rfl, hx⟩)
  go_ret
  exact ⟨ret_eq rfl, hx⟩

theorem vinfo_F : (Try.prog.info? 22).map (fun i => (i.zero, i.size, i.bytes)) = some (some (.int .i64 0), 1, 8) := by kernel_rfl
/-- Numbers of one place. -/
def colL (f : Nat → Nat → Int) (k : Nat) : Nat → List Int
  | 0 => []
  | n + 1 => colL f k n ++ [f n k]
theorem colL_len (f : Nat → Nat → Int) (k n : Nat) : (colL f k n).length = n := by
  induction n with
  | zero => rfl
  | succ n ih => simp [colL, ih]
set_option maxHeartbeats 1600000 in
theorem places_any (A : Option Addr) (c n : Nat) (f : Nat → Nat → Int) (k : Nat) (w : World) (h : RdM 3 w A n f) (hn : n ≤ 1000000) (hk : k < 3) :
    Calls Try.prog 80 #[.slice A n c, .int .i64 (k : Int)] w (RetRow 22 .i64 w (colL f k n)) := by
  obtain ⟨hlen, hr⟩ := h
  have HR := Lib.hid hr; clear hr
  obtain rfl | rfl | rfl : k = 0 ∨ k = 1 ∨ k = 2 := by omega
  · rw [show ((0 : Nat) : Int) = 0 from rfl]
    go_enter Try.func80, Try.ntmps80
    go_wp2
    go_loopw [5, 7, 10] (fun o _ i wr => ∃ j : Nat, j ≤ n ∧ i = .int .i64 j ∧ Own 22 .i64 w.heap.size wr o (colL f 0 j) ∧ Ext w wr) (fun _ _ i _ => n - (intOf i).toNat)
    case atStart => exact ⟨0, by omega, rfl, Own.nil _ _ _ _, Ext.refl _⟩
    case round =>
      obtain ⟨j, hj, rfl, ho, hx⟩ := hrel
      by_cases hlt : j < n
      · obtain ⟨ad, rfl, hc⟩ := HR.out j hlt
        have hc := fun i hi => hx.cell (hc i hi)
        have c0 := el_0 (hc 0 (by decide))
        have c1 := el_s (hc 1 (by decide))
        have c2 := el_s (hc 2 (by decide))
        clear hc
        have hln : Hid (((colL f 0 j).length + 1) * 8 ≤ 140737488355328) := by show _ ≤ _; rw [colL_len]; omega
        have hxa := hx.alloc (.cells #[.int .i64 (f j 0), .int .i64 (f j 1), .int .i64 (f j 2)] 24)
        go_wp2_with (at_builtin; refine app_one (w0 := w) 8 Try.underlying66 vinfo_F (by decide) _ _ (by simp) rfl rfl (ho.ext ((Ext.refl _).alloc _)) hxa hln.out ?_; intro v1 w1 ho1 hx1)
        go_roundw
        case rel => exact ⟨j + 1, by omega, by go_num, ho1, hx1⟩
        case measure => simp [intOf]; omega
      · obtain rfl : n = j := by omega
        go_wp2
        go_ret
        exact ⟨_, rfl, ho, hx⟩
  · rw [show ((1 : Nat) : Int) = 1 from rfl]
    go_enter Try.func80, Try.ntmps80
    go_wp2
    go_loopw [5, 7, 10] (fun o _ i wr => ∃ j : Nat, j ≤ n ∧ i = .int .i64 j ∧ Own 22 .i64 w.heap.size wr o (colL f 1 j) ∧ Ext w wr) (fun _ _ i _ => n - (intOf i).toNat)
    case atStart => exact ⟨0, by omega, rfl, Own.nil _ _ _ _, Ext.refl _⟩
    case round =>
      obtain ⟨j, hj, rfl, ho, hx⟩ := hrel
      by_cases hlt : j < n
      · obtain ⟨ad, rfl, hc⟩ := HR.out j hlt
        have hc := fun i hi => hx.cell (hc i hi)
        have c0 := el_0 (hc 0 (by decide))
        have c1 := el_s (hc 1 (by decide))
        have c2 := el_s (hc 2 (by decide))
        clear hc
        have hln : Hid (((colL f 1 j).length + 1) * 8 ≤ 140737488355328) := by show _ ≤ _; rw [colL_len]; omega
        have hxa := hx.alloc (.cells #[.int .i64 (f j 0), .int .i64 (f j 1), .int .i64 (f j 2)] 24)
        go_wp2_with (at_builtin; refine app_one (w0 := w) 8 Try.underlying66 vinfo_F (by decide) _ _ (by simp) rfl rfl (ho.ext ((Ext.refl _).alloc _)) hxa hln.out ?_; intro v1 w1 ho1 hx1)
        go_roundw
        case rel => exact ⟨j + 1, by omega, by go_num, ho1, hx1⟩
        case measure => simp [intOf]; omega
      · obtain rfl : n = j := by omega
        go_wp2
        go_ret
        exact ⟨_, rfl, ho, hx⟩
  · rw [show ((2 : Nat) : Int) = 2 from rfl]
    go_enter Try.func80, Try.ntmps80
    go_wp2
    go_loopw [5, 7, 10] (fun o _ i wr => ∃ j : Nat, j ≤ n ∧ i = .int .i64 j ∧ Own 22 .i64 w.heap.size wr o (colL f 2 j) ∧ Ext w wr) (fun _ _ i _ => n - (intOf i).toNat)
    case atStart => exact ⟨0, by omega, rfl, Own.nil _ _ _ _, Ext.refl _⟩
    case round =>
      obtain ⟨j, hj, rfl, ho, hx⟩ := hrel
      by_cases hlt : j < n
      · obtain ⟨ad, rfl, hc⟩ := HR.out j hlt
        have hc := fun i hi => hx.cell (hc i hi)
        have c0 := el_0 (hc 0 (by decide))
        have c1 := el_s (hc 1 (by decide))
        have c2 := el_s (hc 2 (by decide))
        clear hc
        have hln : Hid (((colL f 2 j).length + 1) * 8 ≤ 140737488355328) := by show _ ≤ _; rw [colL_len]; omega
        have hxa := hx.alloc (.cells #[.int .i64 (f j 0), .int .i64 (f j 1), .int .i64 (f j 2)] 24)
        go_wp2_with (at_builtin; refine app_one (w0 := w) 8 Try.underlying66 vinfo_F (by decide) _ _ (by simp) rfl rfl (ho.ext ((Ext.refl _).alloc _)) hxa hln.out ?_; intro v1 w1 ho1 hx1)
        go_roundw
        case rel => exact ⟨j + 1, by omega, by go_num, ho1, hx1⟩
        case measure => simp [intOf]; omega
      · obtain rfl : n = j := by omega
        go_wp2
        go_ret
        exact ⟨_, rfl, ho, hx⟩

/-- Two blocks of each. -/
structure Each2 (w w' : World) (gr go : Nat) (a b c : Value) : Prop where
  ext : Ext w w'
  res : Lies w' gr #[.int .i64 0, .int .i64 0, .int .i64 0] 24
  out : Lies w' go #[a, b, c] 24
theorem Each2.next {w w' w2 : World} {gr go : Nat} {a b c : Value} (h : Each2 w w' gr go a b c) (hx : Ext w' w2) : Each2 w w2 gr go a b c :=
  ⟨h.ext.trans hx, h.res.ext hx, h.out.ext hx⟩
theorem Each2.set0 {w w' : World} {gr go : Nat} {a b c : Value} (h : Each2 w w' gr go a b c) (hg : w.heap.size ≤ go) (hne : go ≠ gr) (v : Value) : Each2 w (w'.setCell ⟨go, 0, none⟩ v) gr go v b c :=
  ⟨h.ext.set hg v, h.res.other hne 0 v, h.out.set 0 v⟩
theorem Each2.set1 {w w' : World} {gr go : Nat} {a b c : Value} (h : Each2 w w' gr go a b c) (hg : w.heap.size ≤ go) (hne : go ≠ gr) (v : Value) : Each2 w (w'.setCell ⟨go, 1, none⟩ v) gr go a v c :=
  ⟨h.ext.set hg v, h.res.other hne 1 v, h.out.set 1 v⟩
theorem Each2.set2 {w w' : World} {gr go : Nat} {a b c : Value} (h : Each2 w w' gr go a b c) (hg : w.heap.size ≤ go) (hne : go ≠ gr) (v : Value) : Each2 w (w'.setCell ⟨go, 2, none⟩ v) gr go a b v :=
  ⟨h.ext.set hg v, h.res.other hne 2 v, h.out.set 2 v⟩
/-- What each hands back. -/
def RetV (w : World) (E x y z : Int) (e : Ending) (w' : World) : Prop := e = .returned (.tuple #[.agg #[.int .i64 x, .int .i64 y, .int .i64 z], .int .i64 E]) ∧ Ext w w'
end Go.Proofs.Ytmgckodihnmjoaa
