/-
  The package vec: the vector of whole numbers; walked. Conditions: none.
-/
import Derived.Test.YtmgckodihnmjoaaEachOf
set_option linter.unusedVariables false
set_option linter.unusedSimpArgs false
namespace Go.Proofs.Ytmgckodihnmjoaa
open Go.RowKit

def s3 (x y z : Int) (k : Nat) : Int := if k = 0 then x else if k = 1 then y else z
theorem s3_0 (x y z : Int) : s3 x y z 0 = x := rfl
theorem s3_1 (x y z : Int) : s3 x y z 1 = y := rfl
theorem s3_2 (x y z : Int) : s3 x y z 2 = z := rfl
set_option maxRecDepth 20000 in
set_option maxHeartbeats 800000 in
theorem ofc_any (px py pz : Addr) (x y z : Int) (k : Nat) (hk : k < 3) (w : World) (hx : w.cell? px = some (.int .i64 x)) (hy : w.cell? py = some (.int .i64 y)) (hz : w.cell? pz = some (.int .i64 z)) :
    Calls Try.prog 76 #[.int .i64 (k : Int), .pointer (some px), .pointer (some py), .pointer (some pz)] w fun e w' => e = .returned (.tuple #[.int .i64 (ofR (s3 x y z k)), .int .i64 (ofE (s3 x y z k))]) ∧ w = w' := by
  obtain rfl | rfl | rfl : k = 0 ∨ k = 1 ∨ k = 2 := by omega
  · rw [s3_0, show ((0 : Nat) : Int) = 0 from rfl]
    have i0 : ∀ w, (Instr.index 114 (.agg #[.int .i64 x, .int .i64 y, .int .i64 z]) (.int .i64 0)).run Try.prog w = .ok (.int .i64 x) w := fun _ => by kernel_rfl
    go_enter Try.func76, Try.ntmps76
    go_wp2_with (go_at_call 77; (with_reducible refine (of_any _ _).mono ?_); rintro e w' ⟨rfl, rfl⟩)
    go_ret2
    exact ⟨rfl, rfl⟩
  · rw [s3_1, show ((1 : Nat) : Int) = 1 from rfl]
    have i0 : ∀ w, (Instr.index 114 (.agg #[.int .i64 x, .int .i64 y, .int .i64 z]) (.int .i64 1)).run Try.prog w = .ok (.int .i64 y) w := fun _ => by kernel_rfl
    go_enter Try.func76, Try.ntmps76
    go_wp2_with (go_at_call 77; (with_reducible refine (of_any _ _).mono ?_); rintro e w' ⟨rfl, rfl⟩)
    go_ret2
    exact ⟨rfl, rfl⟩
  · rw [s3_2, show ((2 : Nat) : Int) = 2 from rfl]
    have i0 : ∀ w, (Instr.index 114 (.agg #[.int .i64 x, .int .i64 y, .int .i64 z]) (.int .i64 2)).run Try.prog w = .ok (.int .i64 z) w := fun _ => by kernel_rfl
    go_enter Try.func76, Try.ntmps76
    go_wp2_with (go_at_call 77; (with_reducible refine (of_any _ _).mono ?_); rintro e w' ⟨rfl, rfl⟩)
    go_ret2
    exact ⟨rfl, rfl⟩
def ofvE (x y z : Int) : Int := e3 (ofE x) (ofE y) (ofE z)
def ofvR (x y z r : Int) : Int := r3 (ofE x) (ofE y) (ofE z) (ofR r)
set_option maxRecDepth 20000 in
set_option maxHeartbeats 1600000 in
theorem vof_any (x y z : Int) (w : World) : Calls Try.prog 14 #[.int .i64 x, .int .i64 y, .int .i64 z] w (RetV w (ofvE x y z) (ofvR x y z x) (ofvR x y z y) (ofvR x y z z)) := by
  have L0 := Lies.new w #[.int .i64 x] 3 _ rfl
  have L1 := Lies.new (w.alloc (.cells #[.int .i64 x] 3)) #[.int .i64 y] 3 (w.heap.size + 1) (by simp)
  have L2 := Lies.new ((w.alloc (.cells #[.int .i64 x] 3)).alloc (.cells #[.int .i64 y] 3)) #[.int .i64 z] 3 (w.heap.size + 1 + 1) (by simp)
  have L3 := Lies.new (((w.alloc (.cells #[.int .i64 x] 3)).alloc (.cells #[.int .i64 y] 3)).alloc (.cells #[.int .i64 z] 3)) #[.int .i64 0, .int .i64 0, .int .i64 0] 24 (w.heap.size + 1 + 1 + 1) (by simp)
  have M0 := Lib.hid (L0.ext ((((Ext.refl _).alloc (.cells #[.int .i64 y] 3)).alloc (.cells #[.int .i64 z] 3)).alloc (.cells #[.int .i64 0, .int .i64 0, .int .i64 0] 24)))
  have M1 := Lib.hid (L1.ext (((Ext.refl _).alloc (.cells #[.int .i64 z] 3)).alloc (.cells #[.int .i64 0, .int .i64 0, .int .i64 0] 24)))
  have M2 := Lib.hid (L2.ext ((Ext.refl _).alloc (.cells #[.int .i64 0, .int .i64 0, .int .i64 0] 24)))
  have M3 := Lib.hid L3
  have MX : Hid (Ext w ((((w.alloc (.cells #[.int .i64 x] 3)).alloc (.cells #[.int .i64 y] 3)).alloc (.cells #[.int .i64 z] 3)).alloc (.cells #[.int .i64 0, .int .i64 0, .int .i64 0] 24))) := ((((Ext.refl _).alloc _).alloc _).alloc _).alloc _
  clear L0 L1 L2 L3
  have hl0 : w.heap.size ≤ w.heap.size + 1 + 1 + 1 := by omega
  go_enter Try.func14, Try.ntmps14
  go_wp2_with (go_at_call 75; (refine (eachOf_any _ _ _ (fun k => ofR (s3 x y z k)) (fun k => ofE (s3 x y z k)) _ (fun k hk w1 hx1 => (ofc_any _ _ _ x y z k hk w1 ((M0.out.ext hx1).at_ 0 _ rfl).1 ((M1.out.ext hx1).at_ 0 _ rfl).1 ((M2.out.ext hx1).at_ 0 _ rfl).1).mono (fun e w' h => ⟨h.1, h.2 ▸ Ext.refl _⟩))).mono ?_); rintro e w1 ⟨rfl, hx1⟩; obtain ⟨⟨b0, b1⟩, ⟨b2, b3⟩, b4, b5⟩ := (M3.out.ext hx1).three)
  have HZ := Lib.hid (show Lies _ (w.heap.size + 1 + 1 + 1) #[.int .i64 (r3 (ofE (s3 x y z 0)) (ofE (s3 x y z 1)) (ofE (s3 x y z 2)) (ofR (s3 x y z 0))), .int .i64 (r3 (ofE (s3 x y z 0)) (ofE (s3 x y z 1)) (ofE (s3 x y z 2)) (ofR (s3 x y z 1))), .int .i64 (r3 (ofE (s3 x y z 0)) (ofE (s3 x y z 1)) (ofE (s3 x y z 2)) (ofR (s3 x y z 2)))] 24 from (((M3.out.ext hx1).set 0 (.int .i64 (r3 (ofE (s3 x y z 0)) (ofE (s3 x y z 1)) (ofE (s3 x y z 2)) (ofR (s3 x y z 0))))).set 1 (.int .i64 (r3 (ofE (s3 x y z 0)) (ofE (s3 x y z 1)) (ofE (s3 x y z 2)) (ofR (s3 x y z 1))))).set 2 (.int .i64 (r3 (ofE (s3 x y z 0)) (ofE (s3 x y z 1)) (ofE (s3 x y z 2)) (ofR (s3 x y z 2)))))
  have HXZ := Lib.hid (show Ext _ (((w1.setCell ⟨(w.heap.size + 1 + 1 + 1), 0, none⟩ (.int .i64 (r3 (ofE (s3 x y z 0)) (ofE (s3 x y z 1)) (ofE (s3 x y z 2)) (ofR (s3 x y z 0))))).setCell ⟨(w.heap.size + 1 + 1 + 1), 1, none⟩ (.int .i64 (r3 (ofE (s3 x y z 0)) (ofE (s3 x y z 1)) (ofE (s3 x y z 2)) (ofR (s3 x y z 1))))).setCell ⟨(w.heap.size + 1 + 1 + 1), 2, none⟩ (.int .i64 (r3 (ofE (s3 x y z 0)) (ofE (s3 x y z 1)) (ofE (s3 x y z 2)) (ofR (s3 x y z 2))))) from (((MX.out.trans hx1).set hl0 _).set hl0 _).set hl0 _)
  generalize (((w1.setCell ⟨(w.heap.size + 1 + 1 + 1), 0, none⟩ (.int .i64 (r3 (ofE (s3 x y z 0)) (ofE (s3 x y z 1)) (ofE (s3 x y z 2)) (ofR (s3 x y z 0))))).setCell ⟨(w.heap.size + 1 + 1 + 1), 1, none⟩ (.int .i64 (r3 (ofE (s3 x y z 0)) (ofE (s3 x y z 1)) (ofE (s3 x y z 2)) (ofR (s3 x y z 1))))).setCell ⟨(w.heap.size + 1 + 1 + 1), 2, none⟩ (.int .i64 (r3 (ofE (s3 x y z 0)) (ofE (s3 x y z 1)) (ofE (s3 x y z 2)) (ofR (s3 x y z 2))))) = wz at *
  obtain ⟨⟨k0, _⟩, ⟨k1, _⟩, k2, _⟩ := HZ.out.three
  refine bodyPost_ret (v := .tuple #[.agg #[.int .i64 (r3 (ofE (s3 x y z 0)) (ofE (s3 x y z 1)) (ofE (s3 x y z 2)) (ofR (s3 x y z 0))), .int .i64 (r3 (ofE (s3 x y z 0)) (ofE (s3 x y z 1)) (ofE (s3 x y z 2)) (ofR (s3 x y z 1))), .int .i64 (r3 (ofE (s3 x y z 0)) (ofE (s3 x y z 1)) (ofE (s3 x y z 2)) (ofR (s3 x y z 2)))], .int .i64 (e3 (ofE (s3 x y z 0)) (ofE (s3 x y z 1)) (ofE (s3 x y z 2)))]) (by simp [results, Try.results14, go_sem, k0, k1, k2]) rfl ⟨?_, HXZ.out⟩
  rfl
end Go.Proofs.Ytmgckodihnmjoaa
