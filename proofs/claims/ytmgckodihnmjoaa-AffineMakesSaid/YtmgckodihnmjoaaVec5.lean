/-
  The package vec: differences, scaled ones, dots, the least, the greatest; walked. Conditions: slices that are read lie in memory.
-/
import Derived.Test.YtmgckodihnmjoaaVec4
set_option linter.unusedVariables false
set_option linter.unusedSimpArgs false
namespace Go.Proofs.Ytmgckodihnmjoaa
open Go.RowKit

theorem Lies.s3 {w : World} {p : Nat} {x y z : Int} {t : Nat} (h : Lies w p #[.int .i64 x, .int .i64 y, .int .i64 z] t) (k : Nat) (hk : k < 3) : w.cell? ⟨p, k, none⟩ = some (.int .i64 (s3 x y z k)) := by
  obtain rfl | rfl | rfl : k = 0 ∨ k = 1 ∨ k = 2 := by omega
  · exact (h.at_ 0 _ rfl).1
  · exact (h.at_ 1 _ rfl).1
  · exact (h.at_ 2 _ rfl).1
theorem r3_000 (r : Int) : r3 0 0 0 r = r := by simp [r3, e3]
def subvB (x y z x' y' z' : Int) : Bool := okV x y z && okV x' y' z'
def subvE (x y z x' y' z' : Int) : Int := if subvB x y z x' y' z' then e3 (subE x x') (subE y y') (subE z z') else 1
def subvR (x y z x' y' z' a b : Int) : Int := if subvB x y z x' y' z' then r3 (subE x x') (subE y y') (subE z z') (subR a b) else 0
def sclvE (x y z m : Int) : Int := if okV x y z then e3 (mulE x m) (mulE y m) (mulE z m) else 1
def sclvR (x y z m a : Int) : Int := if okV x y z then r3 (mulE x m) (mulE y m) (mulE z m) (mulR a m) else 0
set_option maxRecDepth 20000 in
set_option maxHeartbeats 1600000 in
theorem vsub_any (x y z x' y' z' : Int) (w : World) : Calls Try.prog 20 #[.agg #[.int .i64 x, .int .i64 y, .int .i64 z], .agg #[.int .i64 x', .int .i64 y', .int .i64 z']] w (RetV w (subvE x y z x' y' z') (subvR x y z x' y' z' x x') (subvR x y z x' y' z' y y') (subvR x y z x' y' z' z z')) := by
  have L0 := Lies.new w #[.int .i64 x, .int .i64 y, .int .i64 z] 24 (w.heap.size) (by simp)
  have L1 := Lies.new (w.alloc (.cells #[.int .i64 x, .int .i64 y, .int .i64 z] 24)) #[.int .i64 x', .int .i64 y', .int .i64 z'] 24 (w.heap.size + 1) (by simp)
  have L2 := Lies.new ((w.alloc (.cells #[.int .i64 x, .int .i64 y, .int .i64 z] 24)).alloc (.cells #[.int .i64 x', .int .i64 y', .int .i64 z'] 24)) #[.int .i64 0, .int .i64 0, .int .i64 0] 24 (w.heap.size + 1 + 1) (by simp)
  have M0 := Lib.hid (L0.ext (((Ext.refl _).alloc (.cells #[.int .i64 x', .int .i64 y', .int .i64 z'] 24)).alloc (.cells #[.int .i64 0, .int .i64 0, .int .i64 0] 24)))
  have M1 := Lib.hid (L1.ext ((Ext.refl _).alloc (.cells #[.int .i64 0, .int .i64 0, .int .i64 0] 24)))
  have M2 := Lib.hid L2
  have MX : Hid (Ext w (((w.alloc (.cells #[.int .i64 x, .int .i64 y, .int .i64 z] 24)).alloc (.cells #[.int .i64 x', .int .i64 y', .int .i64 z'] 24)).alloc (.cells #[.int .i64 0, .int .i64 0, .int .i64 0] 24))) := ((((Ext.refl _).alloc _).alloc _).alloc _)
  clear L0 L1 L2
  have hl0 : w.heap.size ≤ w.heap.size + 1 + 1 := by omega
  cases hv : subvB x y z x' y' z'
  · have hE : Hid (subvE x y z x' y' z' = 1) := by show _ = _; simp [subvE, hv]
    have hR : Hid (∀ a b, subvR x y z x' y' z' a b = 0) := by show ∀ _ _, _; intro a b; simp [subvR, hv]
    go_enter Try.func20, Try.ntmps20
    go_wp2_with (go_at_call 22; (with_reducible refine (vright_lit2 _ _ _ _ _ _ _ _ _ (by simp)).mono ?_); rintro e w1 ⟨rfl, hx1⟩; obtain ⟨⟨b0, b1⟩, ⟨b2, b3⟩, b4, b5⟩ := (M2.out.ext (((Ext.refl _).alloc _).trans hx1)).three; change subvB x y z x' y' z' = false at hv; rw [show (okV x y z && okV x' y' z') = false from hv])
    rw [hE.out, hR.out, hR.out, hR.out]
    have HZ := Lib.hid (show Lies _ (w.heap.size + 1 + 1) #[.int .i64 0, .int .i64 0, .int .i64 0] 24 from (((M2.out.ext (((Ext.refl _).alloc _).trans hx1)).set 0 (.int .i64 0)).set 1 (.int .i64 0)).set 2 (.int .i64 0))
    have HXZ := Lib.hid (show Ext _ (((w1.setCell ⟨(w.heap.size + 1 + 1), 0, none⟩ (.int .i64 0)).setCell ⟨(w.heap.size + 1 + 1), 1, none⟩ (.int .i64 0)).setCell ⟨(w.heap.size + 1 + 1), 2, none⟩ (.int .i64 0)) from (((MX.out.trans (((Ext.refl _).alloc _).trans hx1)).set hl0 _).set hl0 _).set hl0 _)
    generalize (((w1.setCell ⟨(w.heap.size + 1 + 1), 0, none⟩ (.int .i64 0)).setCell ⟨(w.heap.size + 1 + 1), 1, none⟩ (.int .i64 0)).setCell ⟨(w.heap.size + 1 + 1), 2, none⟩ (.int .i64 0)) = wz at *
    obtain ⟨⟨k0, _⟩, ⟨k1, _⟩, k2, _⟩ := HZ.out.three
    refine bodyPost_ret (v := .tuple #[.agg #[.int .i64 0, .int .i64 0, .int .i64 0], .int .i64 1]) (by simp [results, Try.results20, go_sem, k0, k1, k2]) rfl ⟨?_, HXZ.out⟩
    rfl
  · have hE : Hid (subvE x y z x' y' z' = e3 (subE x x') (subE y y') (subE z z')) := by show _ = _; simp [subvE, hv]
    have hR : Hid (∀ a b, subvR x y z x' y' z' a b = r3 (subE x x') (subE y y') (subE z z') (subR a b)) := by show ∀ _ _, _; intro a b; simp [subvR, hv]
    have hv2 := hv
    simp only [subvB, Bool.and_eq_true] at hv2
    have HV := Lib.hid hv2; clear hv2
    go_enter Try.func20, Try.ntmps20
    go_wp2_with (first
      | (go_at_call 22; (with_reducible refine (vright_lit2 _ _ _ _ _ _ _ _ _ (by simp)).mono ?_); rintro e w1 ⟨rfl, hx1⟩; rw [show (okV x y z && okV x' y' z') = true from hv]; have hy1 := ((Ext.refl _).alloc _).trans hx1)
      | (go_at_call 75; (refine (eachSub_any _ _ (fun k => subR (s3 x y z k) (s3 x' y' z' k)) (fun k => subE (s3 x y z k) (s3 x' y' z' k)) _ (fun k hk w2 hx2 => subc_any _ _ (s3 x y z) (s3 x' y' z') k w2 ((M0.out.ext (hy1.trans hx2)).s3 k hk) ((M1.out.ext (hy1.trans hx2)).s3 k hk) hk (okV_in HV.out.1 k) (okV_in HV.out.2 k))).mono ?_); rintro e w2 ⟨rfl, hx2⟩; obtain ⟨⟨b0, b1⟩, ⟨b2, b3⟩, b4, b5⟩ := (M2.out.ext (hy1.trans hx2)).three))
    rw [hE.out, hR.out, hR.out, hR.out]
    have HZ := Lib.hid (show Lies _ (w.heap.size + 1 + 1) #[.int .i64 (r3 (subE (s3 x y z 0) (s3 x' y' z' 0)) (subE (s3 x y z 1) (s3 x' y' z' 1)) (subE (s3 x y z 2) (s3 x' y' z' 2)) (subR (s3 x y z 0) (s3 x' y' z' 0))), .int .i64 (r3 (subE (s3 x y z 0) (s3 x' y' z' 0)) (subE (s3 x y z 1) (s3 x' y' z' 1)) (subE (s3 x y z 2) (s3 x' y' z' 2)) (subR (s3 x y z 1) (s3 x' y' z' 1))), .int .i64 (r3 (subE (s3 x y z 0) (s3 x' y' z' 0)) (subE (s3 x y z 1) (s3 x' y' z' 1)) (subE (s3 x y z 2) (s3 x' y' z' 2)) (subR (s3 x y z 2) (s3 x' y' z' 2)))] 24 from (((M2.out.ext (hy1.trans hx2)).set 0 (.int .i64 (r3 (subE (s3 x y z 0) (s3 x' y' z' 0)) (subE (s3 x y z 1) (s3 x' y' z' 1)) (subE (s3 x y z 2) (s3 x' y' z' 2)) (subR (s3 x y z 0) (s3 x' y' z' 0))))).set 1 (.int .i64 (r3 (subE (s3 x y z 0) (s3 x' y' z' 0)) (subE (s3 x y z 1) (s3 x' y' z' 1)) (subE (s3 x y z 2) (s3 x' y' z' 2)) (subR (s3 x y z 1) (s3 x' y' z' 1))))).set 2 (.int .i64 (r3 (subE (s3 x y z 0) (s3 x' y' z' 0)) (subE (s3 x y z 1) (s3 x' y' z' 1)) (subE (s3 x y z 2) (s3 x' y' z' 2)) (subR (s3 x y z 2) (s3 x' y' z' 2)))))
    have HXZ := Lib.hid (show Ext _ (((w2.setCell ⟨(w.heap.size + 1 + 1), 0, none⟩ (.int .i64 (r3 (subE (s3 x y z 0) (s3 x' y' z' 0)) (subE (s3 x y z 1) (s3 x' y' z' 1)) (subE (s3 x y z 2) (s3 x' y' z' 2)) (subR (s3 x y z 0) (s3 x' y' z' 0))))).setCell ⟨(w.heap.size + 1 + 1), 1, none⟩ (.int .i64 (r3 (subE (s3 x y z 0) (s3 x' y' z' 0)) (subE (s3 x y z 1) (s3 x' y' z' 1)) (subE (s3 x y z 2) (s3 x' y' z' 2)) (subR (s3 x y z 1) (s3 x' y' z' 1))))).setCell ⟨(w.heap.size + 1 + 1), 2, none⟩ (.int .i64 (r3 (subE (s3 x y z 0) (s3 x' y' z' 0)) (subE (s3 x y z 1) (s3 x' y' z' 1)) (subE (s3 x y z 2) (s3 x' y' z' 2)) (subR (s3 x y z 2) (s3 x' y' z' 2))))) from (((MX.out.trans (hy1.trans hx2)).set hl0 _).set hl0 _).set hl0 _)
    generalize (((w2.setCell ⟨(w.heap.size + 1 + 1), 0, none⟩ (.int .i64 (r3 (subE (s3 x y z 0) (s3 x' y' z' 0)) (subE (s3 x y z 1) (s3 x' y' z' 1)) (subE (s3 x y z 2) (s3 x' y' z' 2)) (subR (s3 x y z 0) (s3 x' y' z' 0))))).setCell ⟨(w.heap.size + 1 + 1), 1, none⟩ (.int .i64 (r3 (subE (s3 x y z 0) (s3 x' y' z' 0)) (subE (s3 x y z 1) (s3 x' y' z' 1)) (subE (s3 x y z 2) (s3 x' y' z' 2)) (subR (s3 x y z 1) (s3 x' y' z' 1))))).setCell ⟨(w.heap.size + 1 + 1), 2, none⟩ (.int .i64 (r3 (subE (s3 x y z 0) (s3 x' y' z' 0)) (subE (s3 x y z 1) (s3 x' y' z' 1)) (subE (s3 x y z 2) (s3 x' y' z' 2)) (subR (s3 x y z 2) (s3 x' y' z' 2))))) = wz at *
    obtain ⟨⟨k0, _⟩, ⟨k1, _⟩, k2, _⟩ := HZ.out.three
    refine bodyPost_ret (v := .tuple #[.agg #[.int .i64 (r3 (subE (s3 x y z 0) (s3 x' y' z' 0)) (subE (s3 x y z 1) (s3 x' y' z' 1)) (subE (s3 x y z 2) (s3 x' y' z' 2)) (subR (s3 x y z 0) (s3 x' y' z' 0))), .int .i64 (r3 (subE (s3 x y z 0) (s3 x' y' z' 0)) (subE (s3 x y z 1) (s3 x' y' z' 1)) (subE (s3 x y z 2) (s3 x' y' z' 2)) (subR (s3 x y z 1) (s3 x' y' z' 1))), .int .i64 (r3 (subE (s3 x y z 0) (s3 x' y' z' 0)) (subE (s3 x y z 1) (s3 x' y' z' 1)) (subE (s3 x y z 2) (s3 x' y' z' 2)) (subR (s3 x y z 2) (s3 x' y' z' 2)))], .int .i64 (e3 (subE (s3 x y z 0) (s3 x' y' z' 0)) (subE (s3 x y z 1) (s3 x' y' z' 1)) (subE (s3 x y z 2) (s3 x' y' z' 2)))]) (by simp [results, Try.results20, go_sem, k0, k1, k2]) rfl ⟨?_, HXZ.out⟩
    rfl
set_option maxRecDepth 20000 in
set_option maxHeartbeats 1600000 in
theorem vscale_any (x y z m : Int) (w : World) : Calls Try.prog 25 #[.agg #[.int .i64 x, .int .i64 y, .int .i64 z], .int .i64 m] w (RetV w (sclvE x y z m) (sclvR x y z m x) (sclvR x y z m y) (sclvR x y z m z)) := by
  have L0 := Lies.new w #[.int .i64 x, .int .i64 y, .int .i64 z] 24 (w.heap.size) (by simp)
  have L1 := Lies.new (w.alloc (.cells #[.int .i64 x, .int .i64 y, .int .i64 z] 24)) #[.int .i64 m] 22 (w.heap.size + 1) (by simp)
  have L2 := Lies.new ((w.alloc (.cells #[.int .i64 x, .int .i64 y, .int .i64 z] 24)).alloc (.cells #[.int .i64 m] 22)) #[.int .i64 0, .int .i64 0, .int .i64 0] 24 (w.heap.size + 1 + 1) (by simp)
  have M0 := Lib.hid (L0.ext (((Ext.refl _).alloc (.cells #[.int .i64 m] 22)).alloc (.cells #[.int .i64 0, .int .i64 0, .int .i64 0] 24)))
  have M1 := Lib.hid (L1.ext ((Ext.refl _).alloc (.cells #[.int .i64 0, .int .i64 0, .int .i64 0] 24)))
  have M2 := Lib.hid L2
  have MX : Hid (Ext w (((w.alloc (.cells #[.int .i64 x, .int .i64 y, .int .i64 z] 24)).alloc (.cells #[.int .i64 m] 22)).alloc (.cells #[.int .i64 0, .int .i64 0, .int .i64 0] 24))) := ((((Ext.refl _).alloc _).alloc _).alloc _)
  clear L0 L1 L2
  have hl0 : w.heap.size ≤ w.heap.size + 1 + 1 := by omega
  cases hv : okV x y z
  · have hE : Hid (sclvE x y z m = 1) := by show _ = _; simp [sclvE, hv]
    have hR : Hid (∀ a, sclvR x y z m a = 0) := by show ∀ _, _; intro a; simp [sclvR, hv]
    go_enter Try.func25, Try.ntmps25
    go_wp2_with (go_at_call 22; (with_reducible refine (vright_lit1 _ _ _ _ _ _ (by simp)).mono ?_); rintro e w1 ⟨rfl, hx1⟩; obtain ⟨⟨b0, b1⟩, ⟨b2, b3⟩, b4, b5⟩ := (M2.out.ext (((Ext.refl _).alloc _).trans hx1)).three; rw [hv])
    rw [hE.out, hR.out, hR.out, hR.out]
    have HZ := Lib.hid (show Lies _ (w.heap.size + 1 + 1) #[.int .i64 0, .int .i64 0, .int .i64 0] 24 from (((M2.out.ext (((Ext.refl _).alloc _).trans hx1)).set 0 (.int .i64 0)).set 1 (.int .i64 0)).set 2 (.int .i64 0))
    have HXZ := Lib.hid (show Ext _ (((w1.setCell ⟨(w.heap.size + 1 + 1), 0, none⟩ (.int .i64 0)).setCell ⟨(w.heap.size + 1 + 1), 1, none⟩ (.int .i64 0)).setCell ⟨(w.heap.size + 1 + 1), 2, none⟩ (.int .i64 0)) from (((MX.out.trans (((Ext.refl _).alloc _).trans hx1)).set hl0 _).set hl0 _).set hl0 _)
    generalize (((w1.setCell ⟨(w.heap.size + 1 + 1), 0, none⟩ (.int .i64 0)).setCell ⟨(w.heap.size + 1 + 1), 1, none⟩ (.int .i64 0)).setCell ⟨(w.heap.size + 1 + 1), 2, none⟩ (.int .i64 0)) = wz at *
    obtain ⟨⟨k0, _⟩, ⟨k1, _⟩, k2, _⟩ := HZ.out.three
    refine bodyPost_ret (v := .tuple #[.agg #[.int .i64 0, .int .i64 0, .int .i64 0], .int .i64 1]) (by simp [results, Try.results25, go_sem, k0, k1, k2]) rfl ⟨?_, HXZ.out⟩
    rfl
  · have hE : Hid (sclvE x y z m = e3 (mulE x m) (mulE y m) (mulE z m)) := by show _ = _; simp [sclvE, hv]
    have hR : Hid (∀ a, sclvR x y z m a = r3 (mulE x m) (mulE y m) (mulE z m) (mulR a m)) := by show ∀ _, _; intro a; simp [sclvR, hv]
    go_enter Try.func25, Try.ntmps25
    go_wp2_with (first
      | (go_at_call 22; (with_reducible refine (vright_lit1 _ _ _ _ _ _ (by simp)).mono ?_); rintro e w1 ⟨rfl, hx1⟩; rw [hv]; have hy1 := ((Ext.refl _).alloc _).trans hx1)
      | (go_at_call 75; (refine (eachScale_any _ _ (fun k => mulR (s3 x y z k) m) (fun k => mulE (s3 x y z k) m) _ (fun k hk w2 hx2 => scalec_any _ _ (s3 x y z) m k w2 ((M0.out.ext (hy1.trans hx2)).s3 k hk) ((M1.out.ext (hy1.trans hx2)).at_ 0 _ rfl).1 hk)).mono ?_); rintro e w2 ⟨rfl, hx2⟩; obtain ⟨⟨b0, b1⟩, ⟨b2, b3⟩, b4, b5⟩ := (M2.out.ext (hy1.trans hx2)).three))
    rw [hE.out, hR.out, hR.out, hR.out]
    have HZ := Lib.hid (show Lies _ (w.heap.size + 1 + 1) #[.int .i64 (r3 (mulE (s3 x y z 0) m) (mulE (s3 x y z 1) m) (mulE (s3 x y z 2) m) (mulR (s3 x y z 0) m)), .int .i64 (r3 (mulE (s3 x y z 0) m) (mulE (s3 x y z 1) m) (mulE (s3 x y z 2) m) (mulR (s3 x y z 1) m)), .int .i64 (r3 (mulE (s3 x y z 0) m) (mulE (s3 x y z 1) m) (mulE (s3 x y z 2) m) (mulR (s3 x y z 2) m))] 24 from (((M2.out.ext (hy1.trans hx2)).set 0 (.int .i64 (r3 (mulE (s3 x y z 0) m) (mulE (s3 x y z 1) m) (mulE (s3 x y z 2) m) (mulR (s3 x y z 0) m)))).set 1 (.int .i64 (r3 (mulE (s3 x y z 0) m) (mulE (s3 x y z 1) m) (mulE (s3 x y z 2) m) (mulR (s3 x y z 1) m)))).set 2 (.int .i64 (r3 (mulE (s3 x y z 0) m) (mulE (s3 x y z 1) m) (mulE (s3 x y z 2) m) (mulR (s3 x y z 2) m))))
    have HXZ := Lib.hid (show Ext _ (((w2.setCell ⟨(w.heap.size + 1 + 1), 0, none⟩ (.int .i64 (r3 (mulE (s3 x y z 0) m) (mulE (s3 x y z 1) m) (mulE (s3 x y z 2) m) (mulR (s3 x y z 0) m)))).setCell ⟨(w.heap.size + 1 + 1), 1, none⟩ (.int .i64 (r3 (mulE (s3 x y z 0) m) (mulE (s3 x y z 1) m) (mulE (s3 x y z 2) m) (mulR (s3 x y z 1) m)))).setCell ⟨(w.heap.size + 1 + 1), 2, none⟩ (.int .i64 (r3 (mulE (s3 x y z 0) m) (mulE (s3 x y z 1) m) (mulE (s3 x y z 2) m) (mulR (s3 x y z 2) m)))) from (((MX.out.trans (hy1.trans hx2)).set hl0 _).set hl0 _).set hl0 _)
    generalize (((w2.setCell ⟨(w.heap.size + 1 + 1), 0, none⟩ (.int .i64 (r3 (mulE (s3 x y z 0) m) (mulE (s3 x y z 1) m) (mulE (s3 x y z 2) m) (mulR (s3 x y z 0) m)))).setCell ⟨(w.heap.size + 1 + 1), 1, none⟩ (.int .i64 (r3 (mulE (s3 x y z 0) m) (mulE (s3 x y z 1) m) (mulE (s3 x y z 2) m) (mulR (s3 x y z 1) m)))).setCell ⟨(w.heap.size + 1 + 1), 2, none⟩ (.int .i64 (r3 (mulE (s3 x y z 0) m) (mulE (s3 x y z 1) m) (mulE (s3 x y z 2) m) (mulR (s3 x y z 2) m)))) = wz at *
    obtain ⟨⟨k0, _⟩, ⟨k1, _⟩, k2, _⟩ := HZ.out.three
    refine bodyPost_ret (v := .tuple #[.agg #[.int .i64 (r3 (mulE (s3 x y z 0) m) (mulE (s3 x y z 1) m) (mulE (s3 x y z 2) m) (mulR (s3 x y z 0) m)), .int .i64 (r3 (mulE (s3 x y z 0) m) (mulE (s3 x y z 1) m) (mulE (s3 x y z 2) m) (mulR (s3 x y z 1) m)), .int .i64 (r3 (mulE (s3 x y z 0) m) (mulE (s3 x y z 1) m) (mulE (s3 x y z 2) m) (mulR (s3 x y z 2) m))], .int .i64 (e3 (mulE (s3 x y z 0) m) (mulE (s3 x y z 1) m) (mulE (s3 x y z 2) m))]) (by simp [results, Try.results25, go_sem, k0, k1, k2]) rfl ⟨?_, HXZ.out⟩
    rfl
def leastR (f : Nat → Nat → Int) (n k : Nat) : Int := if n = 0 then 0 else minTo (colL f k n) n
def RetV0 (w : World) (x y z : Int) (e : Ending) (w' : World) : Prop := e = .returned (.agg #[.int .i64 x, .int .i64 y, .int .i64 z]) ∧ Ext w w'
set_option maxRecDepth 20000 in
set_option maxHeartbeats 1600000 in
theorem vleast_any (A : Option Addr) (c n : Nat) (f : Nat → Nat → Int) (w : World) (h : RdM 3 w A n f) (hn : n ≤ 1000000) : Calls Try.prog 27 #[.slice A n c] w (RetV0 w (leastR f n 0) (leastR f n 1) (leastR f n 2)) := by
  have H := Lib.hid h; clear h
  have L0 := Lies.new w #[.slice A n c] 33 (w.heap.size) (by simp)
  have L1 := Lies.new (w.alloc (.cells #[.slice A n c] 33)) #[.int .i64 0, .int .i64 0, .int .i64 0] 24 (w.heap.size + 1) (by simp)
  have M0 := Lib.hid (L0.ext ((Ext.refl _).alloc (.cells #[.int .i64 0, .int .i64 0, .int .i64 0] 24)))
  have M1 := Lib.hid L1
  have MX : Hid (Ext w ((w.alloc (.cells #[.slice A n c] 33)).alloc (.cells #[.int .i64 0, .int .i64 0, .int .i64 0] 24))) := (((Ext.refl _).alloc _).alloc _)
  clear L0 L1
  have hl0 : w.heap.size ≤ w.heap.size + 1 := by omega
  by_cases h0 : n = 0
  · have hR : Hid (∀ k, leastR f n k = 0) := by show ∀ _, _; intro a; simp [leastR, h0]
    rw [hR.out, hR.out, hR.out]
    subst h0
    go_enter Try.func27, Try.ntmps27
    go_wp2
    exact bodyPost_ret (v := .agg #[.int .i64 0, .int .i64 0, .int .i64 0]) (by simp [results, Try.results27, go_sem]) rfl ⟨rfl, MX.out⟩
  · have hR : Hid (∀ k, leastR f n k = minTo (colL f k n) n) := by show ∀ _, _; intro a; simp [leastR, h0]
    rw [hR.out, hR.out, hR.out]
    have hnb : ((n : Int) == 0) = false := by rw [beq_eq_false_iff_ne]; omega
    have hp : 0 < n := by omega
    clear h0
    go_enter Try.func27, Try.ntmps27
    go_wp2_with (go_at_call 75; (refine (eachLeast_any _ (fun k => minTo (colL f k n) n) (fun _ => 0) _ (fun k hk w2 hx2 => leastc_any _ A c n f k w2 ((M0.out.ext hx2).at_ 0 _ rfl).1 (H.out.ext (MX.out.trans hx2)) hn hp hk)).mono ?_); rintro e w2 ⟨rfl, hx2⟩; simp only [r3_000]; have hx3 := hx2.trans ((Ext.refl w2).alloc (.cells #[.int .i64 (minTo (colL f 0 n) n), .int .i64 (minTo (colL f 1 n) n), .int .i64 (minTo (colL f 2 n) n)] 24)); obtain ⟨⟨b0, b1⟩, ⟨b2, b3⟩, b4, b5⟩ := (M1.out.ext hx3).three)
    have HZ := Lib.hid (show Lies _ (w.heap.size + 1) #[.int .i64 (minTo (colL f 0 n) n), .int .i64 (minTo (colL f 1 n) n), .int .i64 (minTo (colL f 2 n) n)] 24 from (((M1.out.ext hx3).set 0 (.int .i64 (minTo (colL f 0 n) n))).set 1 (.int .i64 (minTo (colL f 1 n) n))).set 2 (.int .i64 (minTo (colL f 2 n) n)))
    have HXZ := Lib.hid (show Ext _ ((((w2.alloc (.cells #[.int .i64 (minTo (colL f 0 n) n), .int .i64 (minTo (colL f 1 n) n), .int .i64 (minTo (colL f 2 n) n)] 24)).setCell ⟨(w.heap.size + 1), 0, none⟩ (.int .i64 (minTo (colL f 0 n) n))).setCell ⟨(w.heap.size + 1), 1, none⟩ (.int .i64 (minTo (colL f 1 n) n))).setCell ⟨(w.heap.size + 1), 2, none⟩ (.int .i64 (minTo (colL f 2 n) n))) from (((MX.out.trans hx3).set hl0 _).set hl0 _).set hl0 _)
    generalize ((((w2.alloc (.cells #[.int .i64 (minTo (colL f 0 n) n), .int .i64 (minTo (colL f 1 n) n), .int .i64 (minTo (colL f 2 n) n)] 24)).setCell ⟨(w.heap.size + 1), 0, none⟩ (.int .i64 (minTo (colL f 0 n) n))).setCell ⟨(w.heap.size + 1), 1, none⟩ (.int .i64 (minTo (colL f 1 n) n))).setCell ⟨(w.heap.size + 1), 2, none⟩ (.int .i64 (minTo (colL f 2 n) n))) = wz at *
    obtain ⟨⟨k0, _⟩, ⟨k1, _⟩, k2, _⟩ := HZ.out.three
    refine bodyPost_ret (v := .agg #[.int .i64 (minTo (colL f 0 n) n), .int .i64 (minTo (colL f 1 n) n), .int .i64 (minTo (colL f 2 n) n)]) (by simp [results, Try.results27, go_sem, k0, k1, k2]) rfl ⟨?_, HXZ.out⟩
    rfl
def greatestR (f : Nat → Nat → Int) (n k : Nat) : Int := if n = 0 then 0 else maxTo (colL f k n) n
set_option maxRecDepth 20000 in
set_option maxHeartbeats 1600000 in
theorem vgreatest_any (A : Option Addr) (c n : Nat) (f : Nat → Nat → Int) (w : World) (h : RdM 3 w A n f) (hn : n ≤ 1000000) : Calls Try.prog 29 #[.slice A n c] w (RetV0 w (greatestR f n 0) (greatestR f n 1) (greatestR f n 2)) := by
  have H := Lib.hid h; clear h
  have L0 := Lies.new w #[.slice A n c] 33 (w.heap.size) (by simp)
  have L1 := Lies.new (w.alloc (.cells #[.slice A n c] 33)) #[.int .i64 0, .int .i64 0, .int .i64 0] 24 (w.heap.size + 1) (by simp)
  have M0 := Lib.hid (L0.ext ((Ext.refl _).alloc (.cells #[.int .i64 0, .int .i64 0, .int .i64 0] 24)))
  have M1 := Lib.hid L1
  have MX : Hid (Ext w ((w.alloc (.cells #[.slice A n c] 33)).alloc (.cells #[.int .i64 0, .int .i64 0, .int .i64 0] 24))) := (((Ext.refl _).alloc _).alloc _)
  clear L0 L1
  have hl0 : w.heap.size ≤ w.heap.size + 1 := by omega
  by_cases h0 : n = 0
  · have hR : Hid (∀ k, greatestR f n k = 0) := by show ∀ _, _; intro a; simp [greatestR, h0]
    rw [hR.out, hR.out, hR.out]
    subst h0
    go_enter Try.func29, Try.ntmps29
    go_wp2
    exact bodyPost_ret (v := .agg #[.int .i64 0, .int .i64 0, .int .i64 0]) (by simp [results, Try.results29, go_sem]) rfl ⟨rfl, MX.out⟩
  · have hR : Hid (∀ k, greatestR f n k = maxTo (colL f k n) n) := by show ∀ _, _; intro a; simp [greatestR, h0]
    rw [hR.out, hR.out, hR.out]
    have hnb : ((n : Int) == 0) = false := by rw [beq_eq_false_iff_ne]; omega
    have hp : 0 < n := by omega
    clear h0
    go_enter Try.func29, Try.ntmps29
    go_wp2_with (go_at_call 75; (refine (eachGreatest_any _ (fun k => maxTo (colL f k n) n) (fun _ => 0) _ (fun k hk w2 hx2 => greatestc_any _ A c n f k w2 ((M0.out.ext hx2).at_ 0 _ rfl).1 (H.out.ext (MX.out.trans hx2)) hn hp hk)).mono ?_); rintro e w2 ⟨rfl, hx2⟩; simp only [r3_000]; have hx3 := hx2.trans ((Ext.refl w2).alloc (.cells #[.int .i64 (maxTo (colL f 0 n) n), .int .i64 (maxTo (colL f 1 n) n), .int .i64 (maxTo (colL f 2 n) n)] 24)); obtain ⟨⟨b0, b1⟩, ⟨b2, b3⟩, b4, b5⟩ := (M1.out.ext hx3).three)
    have HZ := Lib.hid (show Lies _ (w.heap.size + 1) #[.int .i64 (maxTo (colL f 0 n) n), .int .i64 (maxTo (colL f 1 n) n), .int .i64 (maxTo (colL f 2 n) n)] 24 from (((M1.out.ext hx3).set 0 (.int .i64 (maxTo (colL f 0 n) n))).set 1 (.int .i64 (maxTo (colL f 1 n) n))).set 2 (.int .i64 (maxTo (colL f 2 n) n)))
    have HXZ := Lib.hid (show Ext _ ((((w2.alloc (.cells #[.int .i64 (maxTo (colL f 0 n) n), .int .i64 (maxTo (colL f 1 n) n), .int .i64 (maxTo (colL f 2 n) n)] 24)).setCell ⟨(w.heap.size + 1), 0, none⟩ (.int .i64 (maxTo (colL f 0 n) n))).setCell ⟨(w.heap.size + 1), 1, none⟩ (.int .i64 (maxTo (colL f 1 n) n))).setCell ⟨(w.heap.size + 1), 2, none⟩ (.int .i64 (maxTo (colL f 2 n) n))) from (((MX.out.trans hx3).set hl0 _).set hl0 _).set hl0 _)
    generalize ((((w2.alloc (.cells #[.int .i64 (maxTo (colL f 0 n) n), .int .i64 (maxTo (colL f 1 n) n), .int .i64 (maxTo (colL f 2 n) n)] 24)).setCell ⟨(w.heap.size + 1), 0, none⟩ (.int .i64 (maxTo (colL f 0 n) n))).setCell ⟨(w.heap.size + 1), 1, none⟩ (.int .i64 (maxTo (colL f 1 n) n))).setCell ⟨(w.heap.size + 1), 2, none⟩ (.int .i64 (maxTo (colL f 2 n) n))) = wz at *
    obtain ⟨⟨k0, _⟩, ⟨k1, _⟩, k2, _⟩ := HZ.out.three
    refine bodyPost_ret (v := .agg #[.int .i64 (maxTo (colL f 0 n) n), .int .i64 (maxTo (colL f 1 n) n), .int .i64 (maxTo (colL f 2 n) n)]) (by simp [results, Try.results29, go_sem, k0, k1, k2]) rfl ⟨?_, HXZ.out⟩
    rfl
end Go.Proofs.Ytmgckodihnmjoaa
