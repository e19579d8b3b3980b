/-
  The law OctetsReads, walked. Conditions: none but that the slices lie in memory, and that the first is of bytes.
-/
import Derived.Test.YtkepmkdnmmofmaaLaw20
import Derived.Deep.RegionHeld3
set_option linter.unusedVariables false
set_option linter.unusedSimpArgs false
namespace Go.Proofs.Ytkepmkdnmmofmaa
open Go.RowKit

theorem wpAnyH_mono' {P : Program} {ops : Array Oper} {Q : Exit → Act → World → Prop} {md : Region.Mode} {S S' : World → Prop} (h : ∀ w, S' w → S w) : ∀ {fuel : Nat} {listed : Array Bool} {a : Act} {w : World}, wpAnyH P md ops Q S' fuel listed a w → wpAnyH P md ops Q S fuel listed a w
  | 0, _, _, _, hh => hh
  | _ + 1, _, _, _, hh => ⟨hh.1, fun i hi => wpOp_mono (fun _ _ h' => ⟨h _ h'.1, wpAnyH_mono' h h'.2⟩) (hh.2 i hi)⟩
/-- Both readers, at their blocks, have read the same. -/
structure Both (w0 w : World) (p m : Nat) : Prop where mk ::
  (out : ∃ A c A' c' xs f, Rd2 93 w p A c xs f ∧ Rd2 70 w m A' c' xs f ∧ (∀ ad, A = some ad → w0.heap.size ≤ ad.block ∧ ad.block ≠ m) ∧ (∀ ad, A' = some ad → w0.heap.size ≤ ad.block ∧ ad.block ≠ p) ∧ p ≠ m ∧ w0.heap.size ≤ p ∧ w0.heap.size ≤ m ∧ Ext w0 w)
theorem Rd2.chg {F : Nat → Prop} {T : Nat} {w w' : World} {p : Nat} {A : Option Addr} {c : Nat} {xs : List Int} {f : Bool} (h : Rd2 T w p A c xs f) (hc : Chg F w w') (hp : ¬ F p) (hA : ∀ ad, A = some ad → ¬ F ad.block) : Rd2 T w' p A c xs f := ⟨h.lies.chg hc hp, h.row.chg hc (fun ad e _ => hA ad e), h.ne, h.cap, h.bytes⟩
set_option maxRecDepth 20000 in
set_option maxHeartbeats 4000000 in
theorem reads_any (A : Option Addr) (c : Nat) (xs : List Int) (B : Option Addr) (d : Nat) (ls : List Int) (w : World) (h : RdK .u8 w A xs) (hb : Bytes xs) (h2 : RdK .i64 w B ls) : Calls Try.prog 11 #[.slice A xs.length c, .slice B ls.length d] w fun e w' => e = .returned (.bool true) ∧ Ext w w' := by
  have H := Lib.hid h; clear h
  have HB := Lib.hid hb; clear hb
  have H2 := Lib.hid h2; clear h2
  by_cases hl : 2000 < xs.length
  · go_enter Try.func11, Try.ntmps11
    go_wp2_with (go_at_call 42; (with_reducible refine (alive20_any _).mono ?_); rintro e w' ⟨rfl, hx⟩)
    go_ret
    exact ⟨ret_eq rfl, by (repeat (first | exact Ext.refl _ | assumption | (with_reducible refine Ext.alloc ?_ _) | (with_reducible refine Ext.drew ?_) | (with_reducible refine Ext.drewN ?_ _) | (refine Ext.trans ?_ (by assumption))))⟩
  by_cases hl2 : 200 < ls.length
  · go_enter Try.func11, Try.ntmps11
    go_wp2_with (go_at_call 42; (with_reducible refine (alive20_any _).mono ?_); rintro e w' ⟨rfl, hx⟩)
    go_ret
    exact ⟨ret_eq rfl, by (repeat (first | exact Ext.refl _ | assumption | (with_reducible refine Ext.alloc ?_ _) | (with_reducible refine Ext.drew ?_) | (with_reducible refine Ext.drewN ?_ _) | (refine Ext.trans ?_ (by assumption))))⟩
  have HL : Hid (xs.length ≤ 140737488355328) := by show _ ≤ _; omega
  go_enter Try.func11, Try.ntmps11
  go_wp2_with (first
    | (go_at_call 46; (with_reducible refine (read_any _ _ _ _ H.out HB.out HL.out).mono ?_); rintro e w1 ⟨p, A1, c1, rfl, hp, hr1, hn1, hx1⟩)
    | (at_builtin; refine app_row (w0 := w1) 1 Try.underlying33 Try.info5 (by decide) _ [] xs A c rfl rfl (Own.made0 _ _ _ _ (Nat.le_refl _) _ rfl) ((Ext.refl _).alloc _) (H.out.ext (hx1.alloc _)) (by have := HL.out; simp; omega) ?_; intro v2 w2 ho2 hx2; obtain ⟨A2, c2, rfl, hr2, _⟩ := ho2.read))
  go_loopw [7, 8] (fun j _ wr => ∃ k : Nat, k ≤ ls.length ∧ j = .int .i64 k ∧ Both w wr p w2.heap.size) (fun j _ _ => ls.length - (intOf j).toNat)
  case atStart =>
    refine ⟨0, by omega, rfl, ⟨A1, c1, A2, c2, xs, false, ?_, ?_, ?_, ?_, ?_, ?_, ?_, ?_⟩⟩
    · exact hr1.ext (hx2.alloc _)
    · exact ⟨Lies.new _ _ _ _ rfl, hr2.ext ((Ext.refl _).alloc _), fun ad e => by have := (ho2.blk ad e).2.1; omega, ho2.cap, HB.out⟩
    · intro ad e
      have h1 := hn1 ad e
      have := hx2.size
      exact ⟨h1.1, by omega⟩
    · intro ad e
      have h1 := ho2.blk ad e
      have := hx1.size
      have := hr1.lies.lt
      exact ⟨by omega, by omega⟩
    · have := hr1.lies.lt
      have := hx2.size
      omega
    · exact hp
    · have := hx1.size
      have := hx2.size
      omega
    · exact hx1.trans (hx2.alloc _)
  case round =>
    obtain ⟨k, hk, rfl, ⟨A3, c3, A4, c4, ys, f, hr3, hr4, hn3, hn4, hpm, hpw, hmw, hx3⟩⟩ := hrel
    by_cases hlt : k < ls.length
    · obtain ⟨ad, rfl, hcell⟩ := (H2.out.ext hx3).2 k hlt
      have hcb : ad.block < w.heap.size := H2.out.blk ad rfl (by omega)
      go_wp2_with (go_at_call 47; (with_reducible refine (get_any _ _ _ _ _ _ _ hr3).mono ?_); rintro e w5 ⟨rfl, ⟨A5, c5, hr5, hc5, hs5⟩⟩)
      generalize hX : getV ys f (nth ls k) = X at *
      have HX := Lib.hid hX; clear hX
      have hr6 : Rd2 70 w5 w2.heap.size A4 c4 ys f := hr4.chg hc5 (fun h => hpm h.symm) (fun ad e => (hn4 ad e).2)
      have hcell5 : ∀ w', Chg (fun i => i = w2.heap.size) w5 w' → w'.cell? (ad.add k) = some (.int .i64 (nth ls k)) := fun w' hx => hx.cell (by rw [add_block]; intro he; omega) (hc5.cell (by rw [add_block]; intro he; omega) hcell)
      have hx5 : Ext w w5 := (hx3.chg (fun i => i = p)).trans hc5 (fun i _ h => h) |>.low (fun i hi h => by omega)
      have hbA : ∀ ad', A5 = some ad' → w.heap.size ≤ ad'.block ∧ ad'.block ≠ w2.heap.size := fun ad' e => by
        obtain ⟨a0, e1, e2⟩ := hs5 ad' e
        rw [e2]; exact hn3 a0 e1
      clear hr3 hr4 hcell
      refine wp_region_held_drew (S := fun w' => Chg (fun i => i = w2.heap.size) w5 w') (by kernel_rfl) (by exact ((Ext.refl _).drew).chg _) (fun hHeld => ?_)
      refine wpAnyH_take (i := 0) (oi := { dst := some 38, op := Op.move (Operand.tmp 8), type := 3, pos := "law.go:51", after := #[], guard := none }) (v := ?_) rfl (by kernel_rfl) (by kernel_rfl) (by kernel_rfl) (fun _ _ _ h => h) (Or.inl ⟨by rfl, ?_⟩) (by assumption) ?_
      rotate_left
      · (intro w' hSw; go_simp; try with_reducible rfl)
      try simp only [Act.put, List.setIfInBounds_toArray, List.set_cons_zero, List.set_cons_succ]
      refine wpAnyH_take (i := 1) (oi := { dst := some 39, op := Op.move (Operand.tmp 6), type := 68, pos := "law.go:51", after := #[], guard := none }) (v := ?_) rfl (by kernel_rfl) (by kernel_rfl) (by kernel_rfl) (fun _ _ _ h => h) (Or.inl ⟨by rfl, ?_⟩) (by assumption) ?_
      rotate_left
      · (intro w' hSw; go_simp; try with_reducible rfl)
      try simp only [Act.put, List.setIfInBounds_toArray, List.set_cons_zero, List.set_cons_succ]
      refine wpAnyH_take (i := 2) (oi := { dst := some 40, op := Op.move (Operand.tmp 1), type := 24, pos := "law.go:51", after := #[], guard := none }) (v := ?_) rfl (by kernel_rfl) (by kernel_rfl) (by kernel_rfl) (fun _ _ _ h => h) (Or.inl ⟨by rfl, ?_⟩) (by assumption) ?_
      rotate_left
      · (intro w' hSw; go_simp; try with_reducible rfl)
      try simp only [Act.put, List.setIfInBounds_toArray, List.set_cons_zero, List.set_cons_succ]
      refine wpAnyH_take (i := 3) (oi := { dst := some 41, op := Op.move (Operand.tmp 7), type := 3, pos := "law.go:51", after := #[], guard := none }) (v := ?_) rfl (by kernel_rfl) (by kernel_rfl) (by kernel_rfl) (fun _ _ _ h => h) (Or.inl ⟨by rfl, ?_⟩) (by assumption) ?_
      rotate_left
      · (intro w' hSw; go_simp; try with_reducible rfl)
      try simp only [Act.put, List.setIfInBounds_toArray, List.set_cons_zero, List.set_cons_succ]
      refine wpAnyH_take (i := 4) (oi := { dst := some 42, op := Op.indexAddr 24 (Operand.tmp 40) (Operand.tmp 41), type := 0, pos := "law.go:51", after := #[{ on := 2, ground := Ground.data }, { on := 3, ground := Ground.data }], guard := none }) (v := ?_) rfl (by kernel_rfl) (by kernel_rfl) (by kernel_rfl) (fun _ _ _ h => h) (Or.inl ⟨by rfl, ?_⟩) (by assumption) ?_
      rotate_left
      · (intro w' hSw; go_simp; try with_reducible rfl)
      try simp only [Act.put, List.setIfInBounds_toArray, List.set_cons_zero, List.set_cons_succ]
      refine wpAnyH_take (i := 5) (oi := { dst := some 43, op := Op.load 3 (Operand.tmp 42), type := 3, pos := "law.go:51", after := #[{ on := 4, ground := Ground.data }], guard := none }) (v := ?_) rfl (by kernel_rfl) (by kernel_rfl) (by kernel_rfl) (fun _ _ _ h => h) (Or.inl ⟨by rfl, ?_⟩) (by assumption) ?_
      rotate_left
      · (intro w' hSw; go_simp; try with_reducible rfl)
      try simp only [Act.put, List.setIfInBounds_toArray, List.set_cons_zero, List.set_cons_succ]
      refine wpAnyH_ready (rs := [6]) (by kernel_rfl) (by simp) ?_
      refine AllReadyH.cons (o := { dst := some 44, op := Op.call { callee := Callee.value (Operand.func 48), args := #[Operand.tmp 39, Operand.tmp 43], argTypes := #[68, 3] }, type := 3, pos := "law.go:51", after := #[{ on := 1, ground := Ground.data }, { on := 5, ground := Ground.data }], guard := none }) rfl (fun K hK => ?_) AllReadyH.nil
      go_simp
      (go_at_call 48; (with_reducible refine (rget_any _ _ _ _ _ _ _ (hr6.ext ((Ext.refl _).drew))).mono ?_); rintro e w6 ⟨rfl, ⟨A6, c6, hr7, hc6, hs6⟩⟩; rw [HX.out])
      refine hK.out _ _ ?_ (fun hHeld => ?_)
      · exact (((Ext.refl w5).drew).chg _).trans hc6 (fun _ _ h => h)
      clear hK K
      try simp only [Act.put, List.setIfInBounds_toArray, List.set_cons_zero, List.set_cons_succ]
      have hc7 : Chg (fun i => i = w2.heap.size) w5 w6 := (((Ext.refl w5).drew).chg _).trans hc6 (fun _ _ h => h)
      refine wpAnyH_mono' (S' := fun w' => Ext w6 w') (fun w' hw' => hc7.ext hw') ?_
      replace hHeld : Ext w6 w6 := Ext.refl _
      have hr8 := fun (w' : World) (hx : Ext w6 w') => (hr5.chg hc7 hpm (fun ad e => (hbA ad e).2)).ext hx
      have hr9 := fun (w' : World) (hx : Ext w6 w') => hr7.ext hx
      have hl9 := fun (w' : World) (hx : Ext w6 w') => ((hr7.ext hx).lies.at_ 1 _ rfl).1
      generalize hGB : getB ys f (nth ls k) = b at *
      generalize hGR : getR ys f (nth ls k) = zs at *
      clear hcell5
      refine wpAnyH_take (i := 7) (oi := { dst := some 45, op := Op.binOp BinOp.neq 3 (Operand.tmp 38) (Operand.tmp 44) 3, type := 4, pos := "law.go:51", after := #[{ on := 0, ground := Ground.data }, { on := 6, ground := Ground.data }], guard := none }) (v := ?_) rfl (by kernel_rfl) (by kernel_rfl) (by kernel_rfl) (fun _ _ _ h => h) (Or.inl ⟨by rfl, ?_⟩) (by assumption) ?_
      rotate_left
      · (intro w' hSw; go_simp; try with_reducible rfl)
      try simp only [Act.put, List.setIfInBounds_toArray, List.set_cons_zero, List.set_cons_succ]
      refine wpAnyH_take (i := 8) (oi := { dst := some 46, op := Op.move (Operand.tmp 45), type := 4, pos := "law.go:51", after := #[{ on := 7, ground := Ground.data }, { on := 6, ground := Ground.chain }], guard := none }) (v := ?_) rfl (by kernel_rfl) (by kernel_rfl) (by kernel_rfl) (fun _ _ _ h => h) (Or.inl ⟨by rfl, ?_⟩) (by assumption) ?_
      rotate_left
      · (intro w' hSw; go_simp; try with_reducible rfl)
      try simp only [Act.put, List.setIfInBounds_toArray, List.set_cons_zero, List.set_cons_succ]
      refine wpAnyH_take (i := 9) (oi := { dst := some 47, op := Op.move (Operand.tmp 5), type := 66, pos := "law.go:51", after := #[{ on := 8, ground := Ground.guard }], guard := some (8, false) }) (v := ?_) rfl (by kernel_rfl) (by kernel_rfl) (by kernel_rfl) (fun _ _ _ h => h) (Or.inl ⟨by rfl, ?_⟩) (by assumption) ?_
      rotate_left
      · (intro w' hSw; go_simp; try with_reducible rfl)
      try simp only [Act.put, List.setIfInBounds_toArray, List.set_cons_zero, List.set_cons_succ]
      refine wpAnyH_take (i := 11) (oi := { dst := some 49, op := Op.move (Operand.tmp 6), type := 68, pos := "law.go:51", after := #[{ on := 8, ground := Ground.guard }], guard := some (8, false) }) (v := ?_) rfl (by kernel_rfl) (by kernel_rfl) (by kernel_rfl) (fun _ _ _ h => h) (Or.inl ⟨by rfl, ?_⟩) (by assumption) ?_
      rotate_left
      · (intro w' hSw; go_simp; try with_reducible rfl)
      try simp only [Act.put, List.setIfInBounds_toArray, List.set_cons_zero, List.set_cons_succ]
      refine wpAnyH_take (i := 12) (oi := { dst := some 50, op := Op.nilCheck (Operand.tmp 49), type := 0, pos := "law.go:51", after := #[{ on := 11, ground := Ground.data }, { on := 8, ground := Ground.guard }], guard := some (8, false) }) (v := ?_) rfl (by kernel_rfl) (by kernel_rfl) (by kernel_rfl) (fun _ _ _ h => h) (Or.inl ⟨by rfl, ?_⟩) (by assumption) ?_
      rotate_left
      · (intro w' hSw; go_simp; try with_reducible rfl)
      try simp only [Act.put, List.setIfInBounds_toArray, List.set_cons_zero, List.set_cons_succ]
      refine wpAnyH_take (i := 13) (oi := { dst := some 51, op := Op.fieldAddr 70 (Operand.tmp 50) 1, type := 0, pos := "law.go:51", after := #[{ on := 12, ground := Ground.data }, { on := 8, ground := Ground.guard }], guard := some (8, false) }) (v := ?_) rfl (by kernel_rfl) (by kernel_rfl) (by kernel_rfl) (fun _ _ _ h => h) (Or.inl ⟨by rfl, ?_⟩) (by assumption) ?_
      rotate_left
      · (intro w' hSw; go_simp; try with_reducible rfl)
      try simp only [Act.put, List.setIfInBounds_toArray, List.set_cons_zero, List.set_cons_succ]
      refine wpAnyH_take (i := 14) (oi := { dst := some 52, op := Op.load 4 (Operand.tmp 51), type := 4, pos := "law.go:51", after := #[{ on := 13, ground := Ground.data }, { on := 8, ground := Ground.guard }], guard := some (8, false) }) (v := ?_) rfl (by kernel_rfl) (by kernel_rfl) (by kernel_rfl) (fun _ _ _ h => h) (Or.inl ⟨by rfl, ?_⟩) (by assumption) ?_
      rotate_left
      · (intro w' hSw; go_simp; try with_reducible rfl)
      try simp only [Act.put, List.setIfInBounds_toArray, List.set_cons_zero, List.set_cons_succ]
      refine wpAnyH_ready (rs := [10]) (by kernel_rfl) (by simp) ?_
      refine AllReadyH.cons (o := { dst := some 48, op := Op.call { callee := Callee.value (Operand.func 49), args := #[Operand.tmp 47], argTypes := #[66] }, type := 4, pos := "law.go:51", after := #[{ on := 9, ground := Ground.data }, { on := 8, ground := Ground.chain }, { on := 8, ground := Ground.guard }], guard := some (8, false) }) rfl (fun K hK => ?_) AllReadyH.nil
      go_simp
      (go_at_call 49; (with_reducible refine (rfailed_any _ _ _ _ _ _ (hr8 _ (by assumption))).mono ?_); rintro e w' ⟨rfl, rfl⟩)
      refine hK.out _ _ ?_ (fun hHeld => ?_)
      · (repeat (first | exact Ext.refl _ | assumption | (with_reducible refine Ext.alloc ?_ _) | (with_reducible refine Ext.drew ?_) | (with_reducible refine Ext.drewN ?_ _) | (refine Ext.trans ?_ (by assumption))))
      clear hK K
      try simp only [Act.put, List.setIfInBounds_toArray, List.set_cons_zero, List.set_cons_succ]
      refine wpAnyH_take (i := 15) (oi := { dst := some 53, op := Op.binOp BinOp.neq 4 (Operand.tmp 48) (Operand.tmp 52) 4, type := 4, pos := "law.go:51", after := #[{ on := 10, ground := Ground.data }, { on := 14, ground := Ground.data }, { on := 8, ground := Ground.guard }], guard := some (8, false) }) (v := ?_) rfl (by kernel_rfl) (by kernel_rfl) (by kernel_rfl) (fun _ _ _ h => h) (Or.inl ⟨by rfl, ?_⟩) (by assumption) ?_
      rotate_left
      · (intro w' hSw; go_simp; try with_reducible rfl)
      try simp only [Act.put, List.setIfInBounds_toArray, List.set_cons_zero, List.set_cons_succ]
      refine wpAnyH_take (i := 16) (oi := { dst := some 54, op := Op.pick (Operand.tmp 46) (Operand.const (Value.bool true)) (Operand.tmp 53), type := 4, pos := "law.go:51", after := #[{ on := 8, ground := Ground.data }, { on := 15, ground := Ground.data }], guard := none }) (v := ?_) rfl (by kernel_rfl) (by kernel_rfl) (by kernel_rfl) (fun _ _ _ h => h) (Or.inl ⟨by rfl, ?_⟩) (by assumption) ?_
      rotate_left
      · (intro w' hSw; go_simp; try with_reducible rfl)
      try simp only [Act.put, List.setIfInBounds_toArray, List.set_cons_zero, List.set_cons_succ]
      refine wpAnyH_take (i := 17) (oi := { dst := some 55, op := Op.move (Operand.tmp 54), type := 4, pos := "law.go:51", after := #[{ on := 16, ground := Ground.data }, { on := 10, ground := Ground.chain }], guard := none }) (v := ?_) rfl (by kernel_rfl) (by kernel_rfl) (by kernel_rfl) (fun _ _ _ h => h) (Or.inl ⟨by rfl, ?_⟩) (by assumption) ?_
      rotate_left
      · (intro w' hSw; go_simp; try with_reducible rfl)
      try simp only [Act.put, List.setIfInBounds_toArray, List.set_cons_zero, List.set_cons_succ]
      refine wpAnyH_take (i := 18) (oi := { dst := some 56, op := Op.move (Operand.tmp 5), type := 66, pos := "law.go:51", after := #[{ on := 17, ground := Ground.guard }], guard := some (17, false) }) (v := ?_) rfl (by kernel_rfl) (by kernel_rfl) (by kernel_rfl) (fun _ _ _ h => h) (Or.inl ⟨by rfl, ?_⟩) (by assumption) ?_
      rotate_left
      · (intro w' hSw; go_simp; try with_reducible rfl)
      try simp only [Act.put, List.setIfInBounds_toArray, List.set_cons_zero, List.set_cons_succ]
      refine wpAnyH_take (i := 20) (oi := { dst := some 58, op := Op.move (Operand.tmp 6), type := 68, pos := "law.go:51", after := #[{ on := 17, ground := Ground.guard }], guard := some (17, false) }) (v := ?_) rfl (by kernel_rfl) (by kernel_rfl) (by kernel_rfl) (fun _ _ _ h => h) (Or.inl ⟨by rfl, ?_⟩) (by assumption) ?_
      rotate_left
      · (intro w' hSw; go_simp; try with_reducible rfl)
      try simp only [Act.put, List.setIfInBounds_toArray, List.set_cons_zero, List.set_cons_succ]
      refine wpAnyH_ready (rs := [19]) (by kernel_rfl) (by simp) ?_
      refine AllReadyH.cons (o := { dst := some 57, op := Op.call { callee := Callee.value (Operand.func 50), args := #[Operand.tmp 56], argTypes := #[66] }, type := 3, pos := "law.go:51", after := #[{ on := 18, ground := Ground.data }, { on := 17, ground := Ground.chain }, { on := 17, ground := Ground.guard }], guard := some (17, false) }) rfl (fun K hK => ?_) AllReadyH.nil
      go_simp
      (go_at_call 50; (with_reducible refine (left_any _ _ _ _ _ _ (hr8 _ (by assumption))).mono ?_); rintro e w' ⟨rfl, rfl⟩)
      refine hK.out _ _ ?_ (fun hHeld => ?_)
      · (repeat (first | exact Ext.refl _ | assumption | (with_reducible refine Ext.alloc ?_ _) | (with_reducible refine Ext.drew ?_) | (with_reducible refine Ext.drewN ?_ _) | (refine Ext.trans ?_ (by assumption))))
      clear hK K
      try simp only [Act.put, List.setIfInBounds_toArray, List.set_cons_zero, List.set_cons_succ]
      refine wpAnyH_ready (rs := [21]) (by kernel_rfl) (by simp) ?_
      refine AllReadyH.cons (o := { dst := some 59, op := Op.call { callee := Callee.value (Operand.func 51), args := #[Operand.tmp 58], argTypes := #[68] }, type := 3, pos := "law.go:51", after := #[{ on := 20, ground := Ground.data }, { on := 19, ground := Ground.chain }, { on := 17, ground := Ground.guard }], guard := some (17, false) }) rfl (fun K hK => ?_) AllReadyH.nil
      go_simp
      (go_at_call 51; (with_reducible refine (rleft_any _ _ _ _ _ _ (hr9 _ (by assumption))).mono ?_); rintro e w' ⟨rfl, rfl⟩)
      refine hK.out _ _ ?_ (fun hHeld => ?_)
      · (repeat (first | exact Ext.refl _ | assumption | (with_reducible refine Ext.alloc ?_ _) | (with_reducible refine Ext.drew ?_) | (with_reducible refine Ext.drewN ?_ _) | (refine Ext.trans ?_ (by assumption))))
      clear hK K
      try simp only [Act.put, List.setIfInBounds_toArray, List.set_cons_zero, List.set_cons_succ]
      refine wpAnyH_take (i := 22) (oi := { dst := some 60, op := Op.binOp BinOp.neq 3 (Operand.tmp 57) (Operand.tmp 59) 3, type := 4, pos := "law.go:51", after := #[{ on := 19, ground := Ground.data }, { on := 21, ground := Ground.data }, { on := 17, ground := Ground.guard }], guard := some (17, false) }) (v := ?_) rfl (by kernel_rfl) (by kernel_rfl) (by kernel_rfl) (fun _ _ _ h => h) (Or.inl ⟨by rfl, ?_⟩) (by assumption) ?_
      rotate_left
      · (intro w' hSw; go_simp; try with_reducible rfl)
      try simp only [Act.put, List.setIfInBounds_toArray, List.set_cons_zero, List.set_cons_succ]
      refine wpAnyH_take (i := 23) (oi := { dst := some 61, op := Op.pick (Operand.tmp 55) (Operand.const (Value.bool true)) (Operand.tmp 60), type := 4, pos := "law.go:51", after := #[{ on := 17, ground := Ground.data }, { on := 22, ground := Ground.data }], guard := none }) (v := ?_) rfl (by kernel_rfl) (by kernel_rfl) (by kernel_rfl) (fun _ _ _ h => h) (Or.inl ⟨by rfl, ?_⟩) (by assumption) ?_
      rotate_left
      · (intro w' hSw; go_simp; try with_reducible rfl)
      try simp only [Act.put, List.setIfInBounds_toArray, List.set_cons_zero, List.set_cons_succ]
      refine wpAnyH_done (by kernel_rfl) ?_ _
      go_wp2
      go_roundw
      case rel =>
        refine ⟨k + 1, by omega, by go_num, ⟨A5, c5, A6, c6, zs, b, hr8 w6 (Ext.refl _), hr7, hbA, fun ad' e => ?_, hpm, hpw, hmw, ?_⟩⟩
        · obtain ⟨a0, e1, e2⟩ := hs6 ad' e
          rw [e2]; exact hn4 a0 e1
        · exact ((hx5.chg (fun i => i = w2.heap.size)).trans hc7 (fun i _ h => h)).low (fun i hi h => by omega)
      case measure => simp [intOf]; omega
    · obtain rfl : k = ls.length := by omega
      go_wp2_with (first | (go_at_call 42; (with_reducible refine (alive20_any _).mono ?_); rintro e w' ⟨rfl, hx⟩) | (go_at_call 47; (with_reducible refine (get_nil _ _).mono ?_); rintro e w' ⟨rfl, rfl⟩) | (go_at_call 49; (with_reducible refine (rfailed_nil _).mono ?_); rintro e w' ⟨rfl, rfl⟩) | (go_at_call 50; (with_reducible refine (left_nil _).mono ?_); rintro e w' ⟨rfl, rfl⟩))
      go_ret
      exact ⟨ret_eq rfl, hx3.trans hx⟩
end Go.Proofs.Ytkepmkdnmmofmaa
