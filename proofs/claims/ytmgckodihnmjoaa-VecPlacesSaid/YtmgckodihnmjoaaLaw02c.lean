/-
  The law VecPlaces, walked. Conditions: none but that the slice lies in memory; its elements' places.
-/
import Derived.Test.YtmgckodihnmjoaaLaw02b
set_option linter.unusedVariables false
set_option linter.unusedSimpArgs false
namespace Go.Proofs.Ytmgckodihnmjoaa
open Go.RowKit

theorem vinfo_Vec : (Try.prog.info? 24).map (fun i => (i.zero, i.size, i.bytes)) = some (some (.agg #[.int .i64 0, .int .i64 0, .int .i64 0]), 3, 24) := by kernel_rfl
theorem wraps_i32 {x : Int} (h : I32 x) : IntKind.i64.wrap x = x := IntWalk.i64_in _ (by obtain ⟨h1, h2⟩ := h; omega)
set_option maxRecDepth 20000 in
set_option maxHeartbeats 6400000 in
theorem places02_any (A : Option Addr) (c n : Nat) (f : Nat → Nat → Int) (x y z x' y' z' : Int) (w : World) (h : RdM 3 w A n f) (hx : I32 x) (hy : I32 y) (hz : I32 z) (hx' : I32 x') (hy' : I32 y') (hz' : I32 z') :
    Calls Try.prog 4 #[.slice A n c, .agg #[.int .i32 x, .int .i32 y, .int .i32 z], .agg #[.int .i32 x', .int .i32 y', .int .i32 z']] w fun e w' => e = .returned (.bool true) ∧ Ext w w' := by
  have H := Lib.hid h; clear h
  by_cases hn : 1200 < n
  · clear hx hy hz hx' hy' hz'
    go_enter Try.func4, Try.ntmps4
    go_wp2_with (go_at_call 16; (with_reducible refine (alive02_any _).mono ?_); rintro e w' ⟨rfl, hx⟩)
    go_ret
    exact ⟨ret_eq rfl, by (repeat (first | exact Ext.refl _ | assumption | (with_reducible refine Ext.alloc ?_ _) | (with_reducible refine Ext.drew ?_) | (with_reducible refine Ext.drewN ?_ _) | (refine Ext.trans ?_ (by assumption))))⟩
  have L0 := Lies.new w #[.int .i32 x, .int .i32 y, .int .i32 z] 34 _ rfl
  have L1 := Lies.new (w.alloc (.cells #[.int .i32 x, .int .i32 y, .int .i32 z] 34)) #[.int .i32 x', .int .i32 y', .int .i32 z'] 34 (w.heap.size + 1) (by simp)
  have M0 := Lib.hid (L0.ext ((Ext.refl _).alloc (.cells #[.int .i32 x', .int .i32 y', .int .i32 z'] 34)))
  have M1 := Lib.hid L1
  have MX : Hid (Ext w ((w.alloc (.cells #[.int .i32 x, .int .i32 y, .int .i32 z] 34)).alloc (.cells #[.int .i32 x', .int .i32 y', .int .i32 z'] 34))) := ((Ext.refl _).alloc _).alloc _
  clear L0 L1
  have d0 := Lib.hid (dot_0 hx hy hz)
  have d1 := Lib.hid (dot_1 hx hy hz)
  have d2 := Lib.hid (dot_2 hx hy hz)
  have hc := Lib.hid (dotE_comm x' y' z' x y z)
  have hc2 := Lib.hid (dotR_comm x' y' z' x y z)
  have he := Lib.hid (addvE_rev f n)
  have her := Lib.hid (addvR_rev f n)
  have b1 := wraps_i32 hx; have b2 := wraps_i32 hy; have b3 := wraps_i32 hz; have b4 := wraps_i32 hx'; have b5 := wraps_i32 hy'; have b6 := wraps_i32 hz'
  have B1 := Lib.hid b1; have B2 := Lib.hid b2; have B3 := Lib.hid b3; have B4 := Lib.hid b4; have B5 := Lib.hid b5; have B6 := Lib.hid b6
  clear hx hy hz hx' hy' hz' b1 b2 b3 b4 b5 b6
  have hn6 : n ≤ 1000000 := by omega
  have hwr : IntKind.i64.wrap ((n : Int) - 1) = (n : Int) - 1 := IntWalk.i64_in _ (by omega)
  go_enter Try.func4, Try.ntmps4
  go_wp2
  generalize hW0 : (w.alloc (.cells #[.int .i32 x, .int .i32 y, .int .i32 z] 34)).alloc (.cells #[.int .i32 x', .int .i32 y', .int .i32 z'] 34) = w0 at *
  clear hW0 hwr
  have H0 := Lib.hid (H.out.ext MX.out)
  go_loopw [7, 8] (fun o i wr => ∃ m : Nat, m ≤ n ∧ i = .int .i64 ((m : Int) - 1) ∧ OwnM 24 3 w0.heap.size wr o (n - m) (revF f n) ∧ Ext w0 wr) (fun _ i _ => (intOf i + 1).toNat)
  case atStart => exact ⟨n, by omega, rfl, by rw [Nat.sub_self]; exact OwnM.nil _ _ _ _ _, Ext.refl _⟩
  case round =>
    obtain ⟨m, hm, rfl, ho, hx⟩ := hrel
    rcases Nat.eq_zero_or_pos m with h0 | h0
    · subst h0
      rw [show (((0 : Nat) : Int) - 1) = -1 from rfl]
      rw [Nat.sub_zero] at ho
      obtain ⟨A2, c2, rfl, hr2⟩ := ho.read
      have hr2 := Lib.hid hr2
      clear ho
      have hq : ∀ w, (binOp .neq 24 (.agg #[.int .i64 (addvR f n 0), .int .i64 (addvR f n 1), .int .i64 (addvR f n 2)]) (.agg #[.int .i64 (addvR f n 0), .int .i64 (addvR f n 1), .int .i64 (addvR f n 2)])).run Try.prog w = .ok (.bool false) w := fun w => by rw [vneq_run]; simp
      go_wp2_with (first
        | (go_at_call 17; (with_reducible refine (vadd_any _ _ _ _ _ (H0.out.ext hx) hn6).mono ?_); rintro e w2 ⟨rfl, hx2⟩)
        | (go_at_call 17; (with_reducible refine (vadd_any _ _ _ (revF f n) _ (hr2.out.ext (hx2.trans ((Ext.refl w2).alloc (.cells #[.int .i64 (addvR f n 0), .int .i64 (addvR f n 1), .int .i64 (addvR f n 2)] 24)))) hn6).mono ?_); rintro e w3 ⟨rfl, hx3⟩; rw [he.out, her.out, her.out, her.out]; have hy3 := Lib.hid (hx.trans (hx2.trans (((Ext.refl w2).alloc (.cells #[.int .i64 (addvR f n 0), .int .i64 (addvR f n 1), .int .i64 (addvR f n 2)] 24)).trans hx3))); have b1 := B1.out; have b2 := B2.out; have b3 := B3.out; have b4 := B4.out; have b5 := B5.out; have b6 := B6.out; have u0 := (M0.out.ext (hy3.out.trans ((Ext.refl w3).alloc (.cells #[.int .i64 (addvR f n 0), .int .i64 (addvR f n 1), .int .i64 (addvR f n 2)] 24)))).three; obtain ⟨⟨f0, _⟩, ⟨f1, _⟩, f2, _⟩ := u0; have u1 := (M1.out.ext (hy3.out.trans (((Ext.refl w3).alloc (.cells #[.int .i64 (addvR f n 0), .int .i64 (addvR f n 1), .int .i64 (addvR f n 2)] 24)).alloc (.cells #[.int .i64 x, .int .i64 y, .int .i64 z] 24)))).three; obtain ⟨⟨g0, _⟩, ⟨g1, _⟩, g2, _⟩ := u1)
        | (go_at_call 18; (with_reducible refine (vdot_any x y z x' y' z' _).mono ?_); rintro e w4 ⟨rfl, hx4⟩; have tok4 : True := trivial; clear f0 f1 f2 g0 g1 g2 b1 b2 b3 b4 b5 b6; have lx4 := Lib.hid ((Lies.new (w3.alloc (.cells #[.int .i64 (addvR f n 0), .int .i64 (addvR f n 1), .int .i64 (addvR f n 2)] 24)) #[.int .i64 x, .int .i64 y, .int .i64 z] 24 (w3.heap.size + 1) (by simp)).ext (((Ext.refl _).alloc (.cells #[.int .i64 x', .int .i64 y', .int .i64 z'] 24)).trans hx4)); have u2 := (lx4.out).three; obtain ⟨⟨i0, _⟩, ⟨i1, _⟩, i2, _⟩ := u2; have u3 := ((Lies.new ((w3.alloc (.cells #[.int .i64 (addvR f n 0), .int .i64 (addvR f n 1), .int .i64 (addvR f n 2)] 24)).alloc (.cells #[.int .i64 x, .int .i64 y, .int .i64 z] 24)) #[.int .i64 x', .int .i64 y', .int .i64 z'] 24 (w3.heap.size + 1 + 1) (by simp)).ext hx4).three; obtain ⟨⟨j0, _⟩, ⟨j1, _⟩, j2, _⟩ := u3)
        | (go_at_call 18; (with_reducible refine (vdot_any x' y' z' x y z _).mono ?_); rintro e w5 ⟨rfl, hx5⟩; rw [hc.out, hc2.out]; clear i0 i1 i2 j0 j1 j2; have lx5 := Lib.hid (lx4.out.ext hx5); have u4 := ((Lies.new w2 #[.int .i64 (addvR f n 0), .int .i64 (addvR f n 1), .int .i64 (addvR f n 2)] 24 _ rfl).ext (hx3.trans ((((((Ext.refl w3).alloc (.cells #[.int .i64 (addvR f n 0), .int .i64 (addvR f n 1), .int .i64 (addvR f n 2)] 24)).alloc (.cells #[.int .i64 x, .int .i64 y, .int .i64 z] 24)).alloc (.cells #[.int .i64 x', .int .i64 y', .int .i64 z'] 24)).trans hx4).trans hx5))).three; obtain ⟨⟨k0, _⟩, ⟨k1, _⟩, k2, _⟩ := u4; have u5 := ((Lies.new w3 #[.int .i64 (addvR f n 0), .int .i64 (addvR f n 1), .int .i64 (addvR f n 2)] 24 _ rfl).ext (((((Ext.refl _).alloc (.cells #[.int .i64 x, .int .i64 y, .int .i64 z] 24)).alloc (.cells #[.int .i64 x', .int .i64 y', .int .i64 z'] 24)).trans hx4).trans hx5)).three; obtain ⟨⟨l0, _⟩, ⟨l1, _⟩, l2, _⟩ := u5; have u6 := (lx5.out.ext ((Ext.refl w5).alloc (.cells #[.int .i64 65536, .int .i64 0, .int .i64 0] 24))).three; obtain ⟨⟨m0, _⟩, ⟨m1, _⟩, m2, _⟩ := u6))
      clear hq k0 k1 k2 l0 l1 l2
      refine wp_loop_rounds 4 ?_
      rw [rounds_succ]
      go_wp2_with (go_at_call 18; (with_reducible refine (vdot_any x y z 65536 0 0 _).mono ?_); rintro e w6 ⟨rfl, hx6⟩; rw [d0.out.1, d0.out.2]; have lx6 := Lib.hid ((lx5.out.ext ((Ext.refl w5).alloc (.cells #[.int .i64 65536, .int .i64 0, .int .i64 0] 24))).ext hx6); have u10 := (lx6.out).three; obtain ⟨⟨n0, _⟩, ⟨n1, _⟩, n2, _⟩ := u10; have u11 := (lx6.out.ext ((Ext.refl w6).alloc (.cells #[.int .i64 0, .int .i64 65536, .int .i64 0] 24))).three; obtain ⟨⟨o0, _⟩, ⟨o1, _⟩, o2, _⟩ := u11)
      rw [rounds_succ]
      go_wp2_with (go_at_call 18; (with_reducible refine (vdot_any x y z 0 65536 0 _).mono ?_); rintro e w7 ⟨rfl, hx7⟩; rw [d1.out.1, d1.out.2]; have lx7 := Lib.hid ((lx6.out.ext ((Ext.refl w6).alloc (.cells #[.int .i64 0, .int .i64 65536, .int .i64 0] 24))).ext hx7); have u12 := (lx7.out).three; obtain ⟨⟨p0, _⟩, ⟨p1, _⟩, p2, _⟩ := u12; have u13 := (lx7.out.ext ((Ext.refl w7).alloc (.cells #[.int .i64 0, .int .i64 0, .int .i64 65536] 24))).three; obtain ⟨⟨q0, _⟩, ⟨q1, _⟩, q2, _⟩ := u13)
      rw [rounds_succ]
      go_wp2_with (go_at_call 18; (with_reducible refine (vdot_any x y z 0 0 65536 _).mono ?_); rintro e w8 ⟨rfl, hx8⟩; rw [d2.out.1, d2.out.2]; have lx8 := Lib.hid ((lx7.out.ext ((Ext.refl w7).alloc (.cells #[.int .i64 0, .int .i64 0, .int .i64 65536] 24))).ext hx8); have u14 := (lx8.out).three; obtain ⟨⟨r0, _⟩, ⟨r1, _⟩, r2, _⟩ := u14)
      rw [rounds_succ]
      go_wp2_with (go_at_call 16; (with_reducible refine (alive02_any _).mono ?_); rintro e w9 ⟨rfl, hx9⟩)
      go_ret
      exact ⟨ret_eq rfl, (MX.out.trans hy3.out).trans (((((((Ext.refl w3).alloc _).alloc _).alloc _).trans hx4).trans hx5).trans ((((Ext.refl _).alloc _).trans hx6).trans ((((Ext.refl _).alloc _).trans hx7).trans ((((Ext.refl _).alloc _).trans hx8).trans hx9))))⟩
    · obtain ⟨u, rfl⟩ : ∃ u, m = u + 1 := ⟨m - 1, by omega⟩
      rw [show (((u + 1 : Nat) : Int) - 1) = (u : Int) by omega]
      obtain ⟨ad, rfl, hcl⟩ := (H0.out.ext hx).2 u (by omega)
      have c0 := el_0 (hcl 0 (by decide))
      have c1 := el_s (hcl 1 (by decide))
      have c2 := el_s (hcl 2 (by decide))
      clear hcl
      have hln : Hid ((n - (u + 1) + 1) * 24 ≤ 140737488355328) := by show _ ≤ _; omega
      have hcs : Hid (#[Value.int .i64 (f u 0), Value.int .i64 (f u 1), Value.int .i64 (f u 2)].toList = (List.range 3).map fun j => Value.int .i64 (revF f n (n - (u + 1)) j)) := by
        show _ = _
        have e : n - 1 - (n - (u + 1)) = u := by omega
        simp [revF, e, List.range_succ]
      have hnm : Hid (n - (u + 1) + 1 = n - u) := by show _ = _; omega
      go_wp2_with (at_builtin; refine app_oneM (w0 := w0) _ 24 (revF f n) _ _ Try.underlying33 vinfo_Vec rfl (by decide) (by decide) _ (n - (u + 1)) rfl rfl rfl hcs.out ho hx hln.out ?_; intro v1 w1 ho1 hx1; rw [hnm.out] at ho1)
      go_roundw
      case rel => exact ⟨u, by omega, rfl, ho1, hx1⟩
      case measure => simp [intOf]
end Go.Proofs.Ytmgckodihnmjoaa
