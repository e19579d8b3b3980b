/-
  The package vec: its functions, walked. Conditions: slices that are read lie in memory.
-/
import Derived.Test.YtmgckodihnmjoaaVec3
import Derived.Test.YtmgckodihnmjoaaEachAdd
import Derived.Test.YtmgckodihnmjoaaEachSub
import Derived.Test.YtmgckodihnmjoaaEachScale
import Derived.Test.YtmgckodihnmjoaaEachDot
import Derived.Test.YtmgckodihnmjoaaEachLeast
import Derived.Test.YtmgckodihnmjoaaEachGreatest
set_option linter.unusedVariables false
set_option linter.unusedSimpArgs false
namespace Go.Proofs.Ytmgckodihnmjoaa
open Go.RowKit

theorem rdM_new (m : Nat) (w : World) (cs : Array Value) (t n k : Nat) (f : Nat → Nat → Int) (hk : k = w.heap.size) (hn : n ≤ 9223372036854775807) (h : ∀ i j, i < n → j < m → cs[i * m + j]? = some (.int .i64 (f i j))) : RdM m (w.alloc (.cells cs t)) (some ⟨k, 0, none⟩) n f := by
  subst hk
  exact ⟨hn, fun i hi => ⟨_, rfl, fun j hj => by rw [cell_new]; exact h i j hi hj⟩⟩
def okV (x y z : Int) : Bool := rightL [x, y, z]
def pairF (x y z x' y' z' : Int) (i j : Nat) : Int := if i = 0 then s3 x y z j else s3 x' y' z' j
def oneF (x y z : Int) (_ j : Nat) : Int := s3 x y z j
theorem vecsB_pair (x y z x' y' z' : Int) : vecsB (pairF x y z x' y' z') 2 = (okV x y z && okV x' y' z') := by
  unfold vecsB allN
  simp [List.range_succ, vecB, pairF, s3, okV]
theorem vecsB_one (x y z : Int) : vecsB (oneF x y z) 1 = okV x y z := by
  unfold vecsB allN
  simp [List.range_succ, vecB, oneF, s3, okV]
theorem vright_lit2 (x y z x' y' z' : Int) (w : World) (t n : Nat) (hn : n = w.heap.size) : Calls Try.prog 22 #[.slice (some ⟨n, 0, none⟩) 2 2] (w.alloc (.cells #[.int .i64 x, .int .i64 y, .int .i64 z, .int .i64 x', .int .i64 y', .int .i64 z'] t)) fun e w' => e = .returned (.bool (okV x y z && okV x' y' z')) ∧ Ext (w.alloc (.cells #[.int .i64 x, .int .i64 y, .int .i64 z, .int .i64 x', .int .i64 y', .int .i64 z'] t)) w' := by
  rw [← vecsB_pair]
  refine vright_any _ 2 2 (pairF x y z x' y' z') _ (rdM_new 3 _ _ t 2 n _ hn (by omega) (fun i j hi hj => ?_))
  obtain rfl | rfl : i = 0 ∨ i = 1 := by omega
  all_goals (obtain rfl | rfl | rfl : j = 0 ∨ j = 1 ∨ j = 2 := by omega)
  all_goals rfl
theorem vright_lit1 (x y z : Int) (w : World) (t n : Nat) (hn : n = w.heap.size) : Calls Try.prog 22 #[.slice (some ⟨n, 0, none⟩) 1 1] (w.alloc (.cells #[.int .i64 x, .int .i64 y, .int .i64 z] t)) fun e w' => e = .returned (.bool (okV x y z)) ∧ Ext (w.alloc (.cells #[.int .i64 x, .int .i64 y, .int .i64 z] t)) w' := by
  rw [← vecsB_one]
  refine vright_any _ 1 1 (oneF x y z) _ (rdM_new 3 _ _ t 1 n _ hn (by omega) (fun i j hi hj => ?_))
  obtain rfl : i = 0 := by omega
  obtain rfl | rfl | rfl : j = 0 ∨ j = 1 ∨ j = 2 := by omega
  all_goals rfl
theorem okV_in {x y z : Int} (h : okV x y z = true) (k : Nat) : inB (s3 x y z k) = true := by
  simp only [okV, rightL, List.all_cons, List.all_nil, Bool.and_true, Bool.and_eq_true] at h
  unfold s3
  split
  · exact h.1
  · split
    · exact h.2.1
    · exact h.2.2

set_option maxRecDepth 20000 in
set_option maxHeartbeats 1600000 in
theorem vadd_any (A : Option Addr) (c n : Nat) (f : Nat → Nat → Int) (w : World) (h : RdM 3 w A n f) (hn : n ≤ 1000000) : Calls Try.prog 17 #[.slice A n c] w (RetV w (addvE f n) (addvR f n 0) (addvR f n 1) (addvR f n 2)) := by
  have H := Lib.hid h; clear h
  have L0 := Lies.new w #[.slice A n c] 33 _ rfl
  have L1 := Lies.new (w.alloc (.cells #[.slice A n c] 33)) #[.int .i64 0, .int .i64 0, .int .i64 0] 24 (w.heap.size + 1) (by simp)
  have M0 := Lib.hid (L0.ext ((Ext.refl _).alloc (.cells #[.int .i64 0, .int .i64 0, .int .i64 0] 24)))
  have M1 := Lib.hid L1
  have MX : Hid (Ext w ((w.alloc (.cells #[.slice A n c] 33)).alloc (.cells #[.int .i64 0, .int .i64 0, .int .i64 0] 24))) := ((Ext.refl _).alloc _).alloc _
  clear L0 L1
  have hl0 : w.heap.size ≤ w.heap.size + 1 := by omega
  cases hv : vecsB f n
  · have hE : Hid (addvE f n = 1) := by show _ = _; simp [addvE, hv]
    have hR : Hid (∀ k, addvR f n k = 0) := by show ∀ _, _; intro k; simp [addvR, hv]
    go_enter Try.func17, Try.ntmps17
    go_wp2_with (go_at_call 22; (with_reducible refine (vright_any _ _ _ _ _ (H.out.ext MX.out)).mono ?_); rintro e w1 ⟨rfl, hx1⟩; obtain ⟨⟨b0, b1⟩, ⟨b2, b3⟩, b4, b5⟩ := (M1.out.ext hx1).three; rw [hv])
    rw [hE.out, hR.out, hR.out, hR.out]
    have HZ := Lib.hid (show Lies _ (w.heap.size + 1) #[.int .i64 0, .int .i64 0, .int .i64 0] 24 from (((M1.out.ext hx1).set 0 (.int .i64 0)).set 1 (.int .i64 0)).set 2 (.int .i64 0))
    have HXZ := Lib.hid (show Ext _ (((w1.setCell ⟨(w.heap.size + 1), 0, none⟩ (.int .i64 0)).setCell ⟨(w.heap.size + 1), 1, none⟩ (.int .i64 0)).setCell ⟨(w.heap.size + 1), 2, none⟩ (.int .i64 0)) from (((MX.out.trans hx1).set hl0 _).set hl0 _).set hl0 _)
    generalize (((w1.setCell ⟨(w.heap.size + 1), 0, none⟩ (.int .i64 0)).setCell ⟨(w.heap.size + 1), 1, none⟩ (.int .i64 0)).setCell ⟨(w.heap.size + 1), 2, none⟩ (.int .i64 0)) = wz at *
    obtain ⟨⟨k0, _⟩, ⟨k1, _⟩, k2, _⟩ := HZ.out.three
    refine bodyPost_ret (v := .tuple #[.agg #[.int .i64 0, .int .i64 0, .int .i64 0], .int .i64 1]) (by simp [results, Try.results17, go_sem, k0, k1, k2]) rfl ⟨?_, HXZ.out⟩
    rfl
  · have hE : Hid (addvE f n = e3 (addE (colL f 0 n)) (addE (colL f 1 n)) (addE (colL f 2 n))) := by show _ = _; simp [addvE, hv]
    have hR : Hid (∀ k, addvR f n k = r3 (addE (colL f 0 n)) (addE (colL f 1 n)) (addE (colL f 2 n)) (addR (colL f k n))) := by show ∀ _, _; intro k; simp [addvR, hv]
    go_enter Try.func17, Try.ntmps17
    go_wp2_with (first
      | (go_at_call 22; (with_reducible refine (vright_any _ _ _ _ _ (H.out.ext MX.out)).mono ?_); rintro e w1 ⟨rfl, hx1⟩; rw [hv])
      | (go_at_call 75; (refine (eachAdd_any _ (fun k => addR (colL f k n)) (fun k => addE (colL f k n)) _ (fun k hk w2 hx2 => addc_any _ A c n f k w2 ((M0.out.ext (hx1.trans hx2)).at_ 0 _ rfl).1 (H.out.ext ((MX.out.trans hx1).trans hx2)) hn hk)).mono ?_); rintro e w2 ⟨rfl, hx2⟩; obtain ⟨⟨b0, b1⟩, ⟨b2, b3⟩, b4, b5⟩ := (M1.out.ext (hx1.trans hx2)).three))
    rw [hE.out, hR.out, hR.out, hR.out]
    have HZ := Lib.hid (show Lies _ (w.heap.size + 1) #[.int .i64 (r3 (addE (colL f 0 n)) (addE (colL f 1 n)) (addE (colL f 2 n)) (addR (colL f 0 n))), .int .i64 (r3 (addE (colL f 0 n)) (addE (colL f 1 n)) (addE (colL f 2 n)) (addR (colL f 1 n))), .int .i64 (r3 (addE (colL f 0 n)) (addE (colL f 1 n)) (addE (colL f 2 n)) (addR (colL f 2 n)))] 24 from (((M1.out.ext (hx1.trans hx2)).set 0 (.int .i64 (r3 (addE (colL f 0 n)) (addE (colL f 1 n)) (addE (colL f 2 n)) (addR (colL f 0 n))))).set 1 (.int .i64 (r3 (addE (colL f 0 n)) (addE (colL f 1 n)) (addE (colL f 2 n)) (addR (colL f 1 n))))).set 2 (.int .i64 (r3 (addE (colL f 0 n)) (addE (colL f 1 n)) (addE (colL f 2 n)) (addR (colL f 2 n)))))
    have HXZ := Lib.hid (show Ext _ (((w2.setCell ⟨(w.heap.size + 1), 0, none⟩ (.int .i64 (r3 (addE (colL f 0 n)) (addE (colL f 1 n)) (addE (colL f 2 n)) (addR (colL f 0 n))))).setCell ⟨(w.heap.size + 1), 1, none⟩ (.int .i64 (r3 (addE (colL f 0 n)) (addE (colL f 1 n)) (addE (colL f 2 n)) (addR (colL f 1 n))))).setCell ⟨(w.heap.size + 1), 2, none⟩ (.int .i64 (r3 (addE (colL f 0 n)) (addE (colL f 1 n)) (addE (colL f 2 n)) (addR (colL f 2 n))))) from (((MX.out.trans (hx1.trans hx2)).set hl0 _).set hl0 _).set hl0 _)
    generalize (((w2.setCell ⟨(w.heap.size + 1), 0, none⟩ (.int .i64 (r3 (addE (colL f 0 n)) (addE (colL f 1 n)) (addE (colL f 2 n)) (addR (colL f 0 n))))).setCell ⟨(w.heap.size + 1), 1, none⟩ (.int .i64 (r3 (addE (colL f 0 n)) (addE (colL f 1 n)) (addE (colL f 2 n)) (addR (colL f 1 n))))).setCell ⟨(w.heap.size + 1), 2, none⟩ (.int .i64 (r3 (addE (colL f 0 n)) (addE (colL f 1 n)) (addE (colL f 2 n)) (addR (colL f 2 n))))) = wz at *
    obtain ⟨⟨k0, _⟩, ⟨k1, _⟩, k2, _⟩ := HZ.out.three
    refine bodyPost_ret (v := .tuple #[.agg #[.int .i64 (r3 (addE (colL f 0 n)) (addE (colL f 1 n)) (addE (colL f 2 n)) (addR (colL f 0 n))), .int .i64 (r3 (addE (colL f 0 n)) (addE (colL f 1 n)) (addE (colL f 2 n)) (addR (colL f 1 n))), .int .i64 (r3 (addE (colL f 0 n)) (addE (colL f 1 n)) (addE (colL f 2 n)) (addR (colL f 2 n)))], .int .i64 (e3 (addE (colL f 0 n)) (addE (colL f 1 n)) (addE (colL f 2 n)))]) (by simp [results, Try.results17, go_sem, k0, k1, k2]) rfl ⟨?_, HXZ.out⟩
    rfl
end Go.Proofs.Ytmgckodihnmjoaa
