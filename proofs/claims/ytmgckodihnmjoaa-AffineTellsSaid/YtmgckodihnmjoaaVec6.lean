/-
  The package vec: dots; walked. Conditions: none.
-/
import Derived.Test.YtmgckodihnmjoaaVec5
set_option linter.unusedVariables false
set_option linter.unusedSimpArgs false
namespace Go.Proofs.Ytmgckodihnmjoaa
open Go.RowKit

def dotM (x y z x' y' z' : Int) : Int := e3 (mulE x x') (mulE y y') (mulE z z')
def dotE (x y z x' y' z' : Int) : Int := if subvB x y z x' y' z' then (if dotM x y z x' y' z' = 0 then addE [mulR x x', mulR y y', mulR z z'] else dotM x y z x' y' z') else 1
def dotR (x y z x' y' z' : Int) : Int := if subvB x y z x' y' z' then (if dotM x y z x' y' z' = 0 then addR [mulR x x', mulR y y', mulR z z'] else 0) else 0
theorem add_lit3 (x y z : Int) (w : World) (t n : Nat) (hn : n = w.heap.size) : Calls Try.prog 79 #[.slice (some ⟨n, 0, none⟩) 3 3] (w.alloc (.cells #[.int .i64 x, .int .i64 y, .int .i64 z] t)) fun e w' => e = .returned (.tuple #[.int .i64 (addR [x, y, z]), .int .i64 (addE [x, y, z])]) ∧ w.alloc (.cells #[.int .i64 x, .int .i64 y, .int .i64 z] t) = w' :=
  add_any _ 3 [x, y, z] _ (rdK_lit .i64 w [x, y, z] t (0, 0) (by simp) n hn)
set_option maxRecDepth 20000 in
set_option maxHeartbeats 1600000 in
theorem vdot_any (x y z x' y' z' : Int) (w : World) : Calls Try.prog 18 #[.agg #[.int .i64 x, .int .i64 y, .int .i64 z], .agg #[.int .i64 x', .int .i64 y', .int .i64 z']] w fun e w' => e = .returned (.tuple #[.int .i64 (dotR x y z x' y' z'), .int .i64 (dotE x y z x' y' z')]) ∧ Ext w w' := by
  have L0 := Lies.new w #[.int .i64 x, .int .i64 y, .int .i64 z] 24 _ rfl
  have L1 := Lies.new (w.alloc (.cells #[.int .i64 x, .int .i64 y, .int .i64 z] 24)) #[.int .i64 x', .int .i64 y', .int .i64 z'] 24 (w.heap.size + 1) (by simp)
  have M0 := Lib.hid (L0.ext ((Ext.refl _).alloc (.cells #[.int .i64 x', .int .i64 y', .int .i64 z'] 24)))
  have M1 := Lib.hid L1
  have MX : Hid (Ext w ((w.alloc (.cells #[.int .i64 x, .int .i64 y, .int .i64 z] 24)).alloc (.cells #[.int .i64 x', .int .i64 y', .int .i64 z'] 24))) := ((Ext.refl _).alloc _).alloc _
  clear L0 L1
  cases hv : subvB x y z x' y' z'
  · have hE : Hid (dotE x y z x' y' z' = 1) := by show _ = _; simp [dotE, hv]
    have hR : Hid (dotR x y z x' y' z' = 0) := by show _ = _; simp [dotR, hv]
    go_enter Try.func18, Try.ntmps18
    go_wp2_with (go_at_call 22; (with_reducible refine (vright_lit2 _ _ _ _ _ _ _ _ _ (by simp)).mono ?_); rintro e w1 ⟨rfl, hx1⟩; change subvB x y z x' y' z' = false at hv; rw [show (okV x y z && okV x' y' z') = false from hv])
    go_ret2
    exact ⟨by rw [hE.out, hR.out]; rfl, MX.out.trans (((Ext.refl _).alloc _).trans hx1)⟩
  · by_cases hm : dotM x y z x' y' z' = 0
    · have hE : Hid (dotE x y z x' y' z' = addE [mulR x x', mulR y y', mulR z z']) := by show _ = _; simp [dotE, hv, hm]
      have hR : Hid (dotR x y z x' y' z' = addR [mulR x x', mulR y y', mulR z z']) := by show _ = _; simp [dotR, hv, hm]
      have hr := fun r => r3_yes hm r
      have HM := Lib.hid hm; have HR := Lib.hid hr; clear hm hr
      go_enter Try.func18, Try.ntmps18
      go_wp2_with (first
        | (go_at_call 22; (with_reducible refine (vright_lit2 _ _ _ _ _ _ _ _ _ (by simp)).mono ?_); rintro e w1 ⟨rfl, hx1⟩; rw [show (okV x y z && okV x' y' z') = true from hv]; have hy1 := ((Ext.refl _).alloc _).trans hx1)
        | (go_at_call 75; (refine (eachDot_any _ _ (fun k => mulR (s3 x y z k) (s3 x' y' z' k)) (fun k => mulE (s3 x y z k) (s3 x' y' z' k)) _ (fun k hk w2 hx2 => dotc_any _ _ (s3 x y z) (s3 x' y' z') k w2 ((M0.out.ext (hy1.trans hx2)).s3 k hk) ((M1.out.ext (hy1.trans hx2)).s3 k hk) hk)).mono ?_); rintro e w2 ⟨rfl, hx2⟩; simp only [s3_0, s3_1, s3_2]; rw [HR.out, HR.out, HR.out, show e3 (mulE x x') (mulE y y') (mulE z z') = 0 from HM.out])
        | (go_at_call 79; (with_reducible refine (add_lit3 _ _ _ _ _ _ rfl).mono ?_); rintro e w' ⟨rfl, rfl⟩))
      go_ret2
      exact ⟨by rw [hE.out, hR.out]; rfl, (MX.out.trans (hy1.trans hx2)).alloc _⟩
    · have hE : Hid (dotE x y z x' y' z' = dotM x y z x' y' z') := by show _ = _; simp [dotE, hv, hm]
      have hR : Hid (dotR x y z x' y' z' = 0) := by show _ = _; simp [dotR, hv, hm]
      have hr := fun r => r3_no hm r
      have HR := Lib.hid hr; clear hr
      have hmb : (dotM x y z x' y' z' != 0) = true := by simpa using hm
      clear hm
      go_enter Try.func18, Try.ntmps18
      go_wp2_with (first
        | (go_at_call 22; (with_reducible refine (vright_lit2 _ _ _ _ _ _ _ _ _ (by simp)).mono ?_); rintro e w1 ⟨rfl, hx1⟩; rw [show (okV x y z && okV x' y' z') = true from hv]; have hy1 := ((Ext.refl _).alloc _).trans hx1)
        | (go_at_call 75; (refine (eachDot_any _ _ (fun k => mulR (s3 x y z k) (s3 x' y' z' k)) (fun k => mulE (s3 x y z k) (s3 x' y' z' k)) _ (fun k hk w2 hx2 => dotc_any _ _ (s3 x y z) (s3 x' y' z') k w2 ((M0.out.ext (hy1.trans hx2)).s3 k hk) ((M1.out.ext (hy1.trans hx2)).s3 k hk) hk)).mono ?_); rintro e w2 ⟨rfl, hx2⟩; simp only [s3_0, s3_1, s3_2]; rw [HR.out, HR.out, HR.out, show e3 (mulE x x') (mulE y y') (mulE z z') = dotM x y z x' y' z' from rfl]))
      go_ret2
      exact ⟨by rw [hE.out, hR.out]; rfl, (MX.out.trans (hy1.trans hx2)).alloc _⟩
end Go.Proofs.Ytmgckodihnmjoaa
