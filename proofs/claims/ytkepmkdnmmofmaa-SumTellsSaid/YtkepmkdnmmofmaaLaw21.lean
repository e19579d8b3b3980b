/-
  The laws of layer 21, walked. Conditions: none but that a slice that is read lies in memory, and that it is of bytes.
-/
import Derived.Test.YtkepmkdnmmofmaaRef21
import Derived.Lib.SlBytesConst
import Derived.Deep.RegionHeld3
set_option linter.unusedVariables false
set_option linter.unusedSimpArgs false
namespace Go.Proofs.Ytkepmkdnmmofmaa
open Go.RowKit

theorem wpAnyH_mono {P : Program} {ops : Array Oper} {Q : Exit → Act → World → Prop} {md : Region.Mode} {S S' : World → Prop} (h : ∀ w, S' w → S w) : ∀ {fuel : Nat} {listed : Array Bool} {a : Act} {w : World}, wpAnyH P md ops Q S' fuel listed a w → wpAnyH P md ops Q S fuel listed a w
  | 0, _, _, _, hh => hh
  | _ + 1, _, _, _, hh => ⟨hh.1, fun i hi => wpOp_mono (fun _ _ h' => ⟨h _ h'.1, wpAnyH_mono h h'.2⟩) (hh.2 i hi)⟩
theorem openT_seal (xs : List Int) : openT (sealL xs) = xs := by
  unfold openT; rw [seal_length, sealL]; simp
theorem openE_seal (xs : List Int) : openE (sealL xs) = 0 := by
  unfold openE openB; rw [openT_seal, seal_length]
  rw [if_neg (by omega), if_pos (by simp [eqL])]
theorem openD_seal (xs : List Int) : openD (sealL xs) = xs := by
  unfold openD openB; rw [openT_seal, seal_length]
  rw [if_neg (by omega), if_pos (by simp [eqL])]

def nine : List Int := [49, 50, 51, 52, 53, 54, 55, 56, 57]
def bytesB (xs : List Int) : Bool := xs.all fun x => decide (0 ≤ x) && decide (x ≤ 255)
theorem bytes_of {xs : List Int} (h : bytesB xs = true) : Bytes xs := fun x hx => by
  have := List.all_eq_true.1 h x hx
  simpa using this
theorem nine_bytes : Bytes nine := bytes_of (by decide)

theorem seal_nine (w : World) (t n : Nat) (fr : Nat × Nat) (hn : n = w.heap.size) : Calls Try.prog 21 #[.slice (some ⟨n, 0, none⟩) 9 9] (w.alloc (.cells #[.int .u8 49, .int .u8 50, .int .u8 51, .int .u8 52, .int .u8 53, .int .u8 54, .int .u8 55, .int .u8 56, .int .u8 57] t fr))
    (RetOwn 5 .u8 (w.alloc (.cells #[.int .u8 49, .int .u8 50, .int .u8 51, .int .u8 52, .int .u8 53, .int .u8 54, .int .u8 55, .int .u8 56, .int .u8 57] t fr)) (sealL nine)) :=
  seal_any (some ⟨n, 0, none⟩) 9 nine _ (rdK_lit .u8 w nine t fr (by decide) n hn) nine_bytes (by decide)
theorem of_nine (w : World) (t n : Nat) (fr : Nat × Nat) (hn : n = w.heap.size) : Calls Try.prog 24 #[.slice (some ⟨n, 0, none⟩) 9 9] (w.alloc (.cells #[.int .u8 49, .int .u8 50, .int .u8 51, .int .u8 52, .int .u8 53, .int .u8 54, .int .u8 55, .int .u8 56, .int .u8 57] t fr))
    (fun e w' => e = .returned (.int .u32 (crcV nine)) ∧ (w.alloc (.cells #[.int .u8 49, .int .u8 50, .int .u8 51, .int .u8 52, .int .u8 53, .int .u8 54, .int .u8 55, .int .u8 56, .int .u8 57] t fr)) = w') :=
  sumOf_any (some ⟨n, 0, none⟩) 9 nine _ (rdK_lit .u8 w nine t fr (by decide) n hn) nine_bytes
theorem open_four (w : World) (t n : Nat) (hn : n = w.heap.size) : Calls Try.prog 22 #[.slice (some ⟨n, 0, none⟩) 4 4] (w.alloc (.cells #[.int .u8 1, .int .u8 2, .int .u8 3, .int .u8 4] t))
    (RetOwnE 5 .u8 (w.alloc (.cells #[.int .u8 1, .int .u8 2, .int .u8 3, .int .u8 4] t)) (openD [1, 2, 3, 4]) (openE [1, 2, 3, 4])) :=
  open_any (some ⟨n, 0, none⟩) 4 [1, 2, 3, 4] _ (rdK_lit .u8 w [1, 2, 3, 4] t (0, 0) (by decide) n hn) (bytes_of (by decide)) (by decide) (by decide)
theorem open_three (w : World) (t n : Nat) (hn : n = w.heap.size) : Calls Try.prog 22 #[.slice (some ⟨n, 0, none⟩) 3 3] (w.alloc (.cells #[.int .u8 1, .int .u8 2, .int .u8 3] t))
    (RetOwnE 5 .u8 (w.alloc (.cells #[.int .u8 1, .int .u8 2, .int .u8 3] t)) (openD [1, 2, 3]) (openE [1, 2, 3])) :=
  open_any (some ⟨n, 0, none⟩) 3 [1, 2, 3] _ (rdK_lit .u8 w [1, 2, 3] t (0, 0) (by decide) n hn) (bytes_of (by decide)) (by decide) (by decide)

set_option maxRecDepth 20000 in
set_option maxHeartbeats 2000000 in
theorem alive21_any (w : World) : Calls Try.prog 20 #[] w fun e w' => e = .returned (.bool true) ∧ Ext w w' := by
  have kc := fun (wx : World) (C : Array Value) (n c : Nat) => Lib.run_convert_bytes_const (P := Try.prog) wx 33 5 C n c Try.underlying33 Try.underlying5
  have h1 : crcV nine = 3421780262 := by decide +kernel
  have h2 : openE [1, 2, 3, 4] = 10 := by decide +kernel
  have h3 : openE [1, 2, 3] = 2 := by decide +kernel
  have h4 : Hid (openE (sealL nine) = 0) := openE_seal _
  have h5 : Hid (openD (sealL nine) = nine) := openD_seal _
  have h6 : (((sealL nine).length : Int) == 13) = true := by rw [seal_length]; rfl
  have h6b : 9 < (sealL nine).length := by rw [seal_length]; decide
  have h7 : Hid (nth (sealL nine) 9 = 38) := by show _ = _; decide +kernel
  have hl : Hid ((sealL nine).length ≤ 140737488355000) := by show _ ≤ _; rw [seal_length]; decide
  have hal := fun (a b : World) (o : Obj) (h : Ext a b) => h.alloc o
  have hs9 : strOfNums nine = ⟨#[49, 50, 51, 52, 53, 54, 55, 56, 57]⟩ := by decide
  go_enter Try.func20, Try.ntmps20
  go_wp2_with (first
    | (go_at_call 21; (with_reducible refine (seal_nine _ _ _ _ (by simp)).mono ?_); rintro e w1 ⟨v1, rfl, ho1, hx1⟩; obtain ⟨A1, c1, rfl, hr1, _⟩ := ho1.read; have hcap1 : Hid ((sealL nine).length ≤ c1) := ho1.cap; obtain ⟨ad1, rfl, hc9⟩ := hr1.2 9 h6b; rw [h7.out, Addr.add, if_neg (by decide)] at hc9; have hr9 := fun (w' : World) (hx : Ext w1 w') => hx.cell hc9; clear hc9)
    | (go_at_call 22; (with_reducible refine (open_any _ _ _ _ hr1 (seal_bytes nine_bytes) hcap1.out hl.out).mono ?_); rintro e w2 ⟨v2, rfl, ho2, hx2⟩; rw [h4.out]; rw [h5.out] at ho2; obtain ⟨A2, c2, rfl, hr2, _⟩ := ho2.read; have hk2 := fun (w' : World) (hx : Ext w2 w') => run_str (P := Try.prog) (hr2.ext hx) 33 5 9 Try.underlying33 Try.underlying5 Try.underlying9 c2)
    | (go_at_call 22; (with_reducible refine (open_four _ _ _ (by simp)).mono ?_); rintro e w3 ⟨v3, rfl, ho3, hx3⟩)
    | (go_at_call 22; (with_reducible refine (open_three _ _ _ (by simp)).mono ?_); rintro e w4 ⟨v4, rfl, ho4, hx4⟩; obtain ⟨hx04, hx14, hx24⟩ : Ext w w4 ∧ Ext w1 w4 ∧ Ext w2 w4 := ⟨by (repeat (first | exact Ext.refl _ | assumption | (with_reducible refine Ext.alloc ?_ _) | (with_reducible refine Ext.drew ?_) | (with_reducible refine Ext.drewN ?_ _) | (refine Ext.trans ?_ (by assumption)))), by (repeat (first | exact Ext.refl _ | assumption | (with_reducible refine Ext.alloc ?_ _) | (with_reducible refine Ext.drew ?_) | (with_reducible refine Ext.drewN ?_ _) | (refine Ext.trans ?_ (by assumption)))), by (repeat (first | exact Ext.refl _ | assumption | (with_reducible refine Ext.alloc ?_ _) | (with_reducible refine Ext.drew ?_) | (with_reducible refine Ext.drewN ?_ _) | (refine Ext.trans ?_ (by assumption))))⟩)
    | (go_at_call 24; (with_reducible refine (of_nine _ _ _ _ (by simp)).mono ?_); rintro e w5 ⟨rfl, hw5⟩; have hx5 : Ext w4 w5 := (by rw [← hw5]; exact (Ext.refl _).alloc _); clear hw5; obtain ⟨hx05, hx15, hx25⟩ : Ext w w5 ∧ Ext w1 w5 ∧ Ext w2 w5 := ⟨hx04.trans hx5, hx14.trans hx5, hx24.trans hx5⟩; clear hx04 hx14 hx24))
  go_ret
  exact ⟨ret_eq rfl, hx05⟩

set_option maxRecDepth 20000 in
set_option maxHeartbeats 4000000 in
theorem tells21_any (A : Option Addr) (c : Nat) (xs : List Int) (w : World) (h : RdK .u8 w A xs) (hb : Bytes xs) (hc : xs.length ≤ c) :
    Calls Try.prog 5 #[.slice A xs.length c] w fun e w' => e = .returned (.bool true) ∧ Ext w w' := by
  have H := Lib.hid h; clear h
  have HB := Lib.hid hb; clear hb
  have HC := Lib.hid hc; clear hc
  by_cases hl : 4000 < xs.length
  · go_enter Try.func5, Try.ntmps5
    go_wp2_with (go_at_call 20; (with_reducible refine (alive21_any _).mono ?_); rintro e w' ⟨rfl, hx⟩)
    go_ret
    exact ⟨ret_eq rfl, by (repeat (first | exact Ext.refl _ | assumption | (with_reducible refine Ext.alloc ?_ _) | (with_reducible refine Ext.drew ?_) | (with_reducible refine Ext.drewN ?_ _) | (refine Ext.trans ?_ (by assumption))))⟩
  · have hl1 : Hid (xs.length ≤ 140737488355000) := by show _ ≤ _; omega
    have hl2 : Hid ((sealL xs).length ≤ 140737488355000) := by show _ ≤ _; rw [seal_length]; omega
    have h4 : Hid (openE (sealL xs) = 0) := openE_seal _
    have h5 : Hid (openD (sealL xs) = xs) := openD_seal _
    have hsb : Hid (Bytes (sealL xs)) := seal_bytes HB.out
    go_enter Try.func5, Try.ntmps5
    go_wp2_with (first
      | (go_at_call 21; (with_reducible refine (seal_any _ _ _ _ H.out HB.out hl1.out).mono ?_); rintro e w1 ⟨v1, rfl, ho1, hx1⟩; obtain ⟨A1, c1, rfl, hr1, _⟩ := ho1.read; have hcap1 : Hid ((sealL xs).length ≤ c1) := ho1.cap)
      | (go_at_call 22; (with_reducible refine (open_any _ _ _ _ (H.out.ext hx1) HB.out HC.out hl1.out).mono ?_); rintro e w2 ⟨v2, rfl, ho2, hx2⟩; obtain ⟨A2, c2, rfl, hr2, _⟩ := ho2.read)
      | (go_at_call 23; (with_reducible refine (ropen_any _ _ _ _ (H.out.ext (hx1.trans hx2)) HB.out HC.out hl1.out).mono ?_); rintro e w3 ⟨v3, rfl, ho3, hx3⟩; obtain ⟨A3, c3, rfl, hr3, _⟩ := ho3.read)
      | (go_at_call 22; (with_reducible refine (open_any _ _ _ _ (hr1.ext (hx2.trans hx3)) hsb.out hcap1.out hl2.out).mono ?_); rintro e w4 ⟨v4, rfl, ho4, hx4⟩; rw [h4.out]; rw [h5.out] at ho4; obtain ⟨A4, c4, rfl, hr4, _⟩ := ho4.read))
    have hx04 := hx1.trans (hx2.trans (hx3.trans hx4))
    have hr0 := H.out.ext hx04
    have hr1 := hr1.ext (hx2.trans (hx3.trans hx4))
    have hr2 := hr2.ext (hx3.trans hx4)
    have hr3 := hr3.ext hx4
    have k0 := fun (w' : World) (hx : Ext w4 w') => run_str (P := Try.prog) (hr0.ext hx) 33 5 9 Try.underlying33 Try.underlying5 Try.underlying9 c
    have k1 := fun (w' : World) (hx : Ext w4 w') => run_str (P := Try.prog) (hr1.ext hx) 33 5 9 Try.underlying33 Try.underlying5 Try.underlying9 c1
    have k2 := fun (w' : World) (hx : Ext w4 w') => run_str (P := Try.prog) (hr2.ext hx) 33 5 9 Try.underlying33 Try.underlying5 Try.underlying9 c2
    have k3 := fun (w' : World) (hx : Ext w4 w') => run_str (P := Try.prog) (hr3.ext hx) 33 5 9 Try.underlying33 Try.underlying5 Try.underlying9 c3
    have k4 := fun (w' : World) (hx : Ext w4 w') => run_str (P := Try.prog) (hr4.ext hx) 33 5 9 Try.underlying33 Try.underlying5 Try.underlying9 c4
    have HR0 := Lib.hid hr0
    have hX := Lib.hid hx04
    clear hx1 hx2 hx3 hx4 hx04 hr0 hr1 hr2 hr3 hr4 ho1 ho2 ho3 ho4
    refine wp_region_held_drew (S := fun w' => Ext w4 w') (by kernel_rfl) ((Ext.refl _).drew) (fun hHeld => ?_)
    refine wpAnyH_ready (rs := [0]) (by kernel_rfl) (by simp) ?_
    refine AllReadyH.cons (o := { dst := some 31, op := Op.call { callee := Callee.value (Operand.func 20), args := #[], argTypes := #[] }, type := 4, pos := "law.go:31", after := #[], guard := none }) rfl (fun K hK => ?_) AllReadyH.nil
    go_simp
    (go_at_call 20; (with_reducible refine (alive21_any _).mono ?_); rintro e w5 ⟨rfl, hx5⟩)
    refine hK.out _ _ ?_ (fun hHeld => ?_)
    · (repeat (first | exact Ext.refl _ | assumption | (with_reducible refine Ext.alloc ?_ _) | (with_reducible refine Ext.drew ?_) | (with_reducible refine Ext.drewN ?_ _) | (refine Ext.trans ?_ (by assumption))))
    clear hK K
    try simp only [Act.put, List.setIfInBounds_toArray, List.set_cons_zero, List.set_cons_succ]
    refine wpAnyH_take (i := 1) (oi := { dst := some 32, op := Op.move (Operand.tmp 31), type := 4, pos := "law.go:31", after := #[{ on := 0, ground := Ground.data }, { on := 0, ground := Ground.chain }], guard := none }) (v := ?_) rfl (by kernel_rfl) (by kernel_rfl) (by kernel_rfl) (fun _ _ _ h => h) (Or.inl ⟨by rfl, ?_⟩) (by assumption) ?_
    rotate_left
    · (intro w' hSw; go_simp; try with_reducible rfl)
    try simp only [Act.put, List.setIfInBounds_toArray, List.set_cons_zero, List.set_cons_succ]
    refine wpAnyH_take (i := 2) (oi := { dst := some 33, op := Op.move (Operand.tmp 0), type := 33, pos := "law.go:31", after := #[{ on := 1, ground := Ground.guard }], guard := some (1, true) }) (v := ?_) rfl (by kernel_rfl) (by kernel_rfl) (by kernel_rfl) (fun _ _ _ h => h) (Or.inl ⟨by rfl, ?_⟩) (by assumption) ?_
    rotate_left
    · (intro w' hSw; go_simp; try with_reducible rfl)
    try simp only [Act.put, List.setIfInBounds_toArray, List.set_cons_zero, List.set_cons_succ]
    refine wpAnyH_take (i := 4) (oi := { dst := some 35, op := Op.move (Operand.tmp 0), type := 33, pos := "law.go:31", after := #[{ on := 1, ground := Ground.guard }], guard := some (1, true) }) (v := ?_) rfl (by kernel_rfl) (by kernel_rfl) (by kernel_rfl) (fun _ _ _ h => h) (Or.inl ⟨by rfl, ?_⟩) (by assumption) ?_
    rotate_left
    · (intro w' hSw; go_simp; try with_reducible rfl)
    try simp only [Act.put, List.setIfInBounds_toArray, List.set_cons_zero, List.set_cons_succ]
    refine wpAnyH_ready (rs := [3]) (by kernel_rfl) (by simp) ?_
    refine AllReadyH.cons (o := { dst := some 34, op := Op.call { callee := Callee.value (Operand.func 24), args := #[Operand.tmp 33], argTypes := #[33] }, type := 38, pos := "law.go:31", after := #[{ on := 2, ground := Ground.data }, { on := 1, ground := Ground.chain }, { on := 1, ground := Ground.guard }], guard := some (1, true) }) rfl (fun K hK => ?_) AllReadyH.nil
    go_simp
    (go_at_call 24; (with_reducible refine (sumOf_any _ _ _ _ (HR0.out.ext (by assumption)) HB.out).mono ?_); rintro e w6 ⟨rfl, rfl⟩)
    refine hK.out _ _ ?_ (fun hHeld => ?_)
    · (repeat (first | exact Ext.refl _ | assumption | (with_reducible refine Ext.alloc ?_ _) | (with_reducible refine Ext.drew ?_) | (with_reducible refine Ext.drewN ?_ _) | (refine Ext.trans ?_ (by assumption))))
    clear hK K
    try simp only [Act.put, List.setIfInBounds_toArray, List.set_cons_zero, List.set_cons_succ]
    refine wpAnyH_ready (rs := [5]) (by kernel_rfl) (by simp) ?_
    refine AllReadyH.cons (o := { dst := some 36, op := Op.call { callee := Callee.value (Operand.func 25), args := #[Operand.tmp 35], argTypes := #[33] }, type := 38, pos := "law.go:31", after := #[{ on := 4, ground := Ground.data }, { on := 3, ground := Ground.chain }, { on := 1, ground := Ground.guard }], guard := some (1, true) }) rfl (fun K hK => ?_) AllReadyH.nil
    go_simp
    (go_at_call 25; (with_reducible refine (rsumOf_any _ _ _ _ (HR0.out.ext (by assumption)) HB.out).mono ?_); rintro e w7 ⟨rfl, rfl⟩)
    refine hK.out _ _ ?_ (fun hHeld => ?_)
    · (repeat (first | exact Ext.refl _ | assumption | (with_reducible refine Ext.alloc ?_ _) | (with_reducible refine Ext.drew ?_) | (with_reducible refine Ext.drewN ?_ _) | (refine Ext.trans ?_ (by assumption))))
    clear hK K
    try simp only [Act.put, List.setIfInBounds_toArray, List.set_cons_zero, List.set_cons_succ]
    refine wpAnyH_take (i := 6) (oi := { dst := some 37, op := Op.binOp BinOp.eql 38 (Operand.tmp 34) (Operand.tmp 36) 38, type := 4, pos := "law.go:31", after := #[{ on := 3, ground := Ground.data }, { on := 5, ground := Ground.data }, { on := 1, ground := Ground.guard }], guard := some (1, true) }) (v := ?_) rfl (by kernel_rfl) (by kernel_rfl) (by kernel_rfl) (fun _ _ _ h => h) (Or.inl ⟨by rfl, ?_⟩) (by assumption) ?_
    rotate_left
    · (intro w' hSw; go_simp; try with_reducible rfl)
    try simp only [Act.put, List.setIfInBounds_toArray, List.set_cons_zero, List.set_cons_succ]
    refine wpAnyH_take (i := 7) (oi := { dst := some 38, op := Op.pick (Operand.tmp 32) (Operand.tmp 37) (Operand.const (Value.bool false)), type := 4, pos := "law.go:31", after := #[{ on := 1, ground := Ground.data }, { on := 6, ground := Ground.data }], guard := none }) (v := ?_) rfl (by kernel_rfl) (by kernel_rfl) (by kernel_rfl) (fun _ _ _ h => h) (Or.inl ⟨by rfl, ?_⟩) (by assumption) ?_
    rotate_left
    · (intro w' hSw; go_simp; try with_reducible rfl)
    try simp only [Act.put, List.setIfInBounds_toArray, List.set_cons_zero, List.set_cons_succ]
    refine wpAnyH_take (i := 8) (oi := { dst := some 39, op := Op.move (Operand.tmp 38), type := 4, pos := "law.go:31", after := #[{ on := 7, ground := Ground.data }, { on := 5, ground := Ground.chain }], guard := none }) (v := ?_) rfl (by kernel_rfl) (by kernel_rfl) (by kernel_rfl) (fun _ _ _ h => h) (Or.inl ⟨by rfl, ?_⟩) (by assumption) ?_
    rotate_left
    · (intro w' hSw; go_simp; try with_reducible rfl)
    try simp only [Act.put, List.setIfInBounds_toArray, List.set_cons_zero, List.set_cons_succ]
    refine wpAnyH_take (i := 9) (oi := { dst := some 40, op := Op.move (Operand.tmp 3), type := 33, pos := "law.go:31", after := #[{ on := 8, ground := Ground.guard }], guard := some (8, true) }) (v := ?_) rfl (by kernel_rfl) (by kernel_rfl) (by kernel_rfl) (fun _ _ _ h => h) (Or.inl ⟨by rfl, ?_⟩) (by assumption) ?_
    rotate_left
    · (intro w' hSw; go_simp; try with_reducible rfl)
    try simp only [Act.put, List.setIfInBounds_toArray, List.set_cons_zero, List.set_cons_succ]
    refine wpAnyH_take (i := 10) (oi := { dst := some 41, op := Op.convert 33 9 (Operand.tmp 40), type := 9, pos := "law.go:31", after := #[{ on := 9, ground := Ground.data }, { on := 8, ground := Ground.guard }], guard := some (8, true) }) (v := ?_) rfl (by kernel_rfl) (by kernel_rfl) (by kernel_rfl) (fun _ _ _ h => h) (Or.inl ⟨by rfl, ?_⟩) (by assumption) ?_
    rotate_left
    · (intro w' hSw; go_simp; try with_reducible rfl)
    try simp only [Act.put, List.setIfInBounds_toArray, List.set_cons_zero, List.set_cons_succ]
    refine wpAnyH_take (i := 11) (oi := { dst := some 42, op := Op.move (Operand.tmp 0), type := 33, pos := "law.go:31", after := #[{ on := 8, ground := Ground.guard }], guard := some (8, true) }) (v := ?_) rfl (by kernel_rfl) (by kernel_rfl) (by kernel_rfl) (fun _ _ _ h => h) (Or.inl ⟨by rfl, ?_⟩) (by assumption) ?_
    rotate_left
    · (intro w' hSw; go_simp; try with_reducible rfl)
    try simp only [Act.put, List.setIfInBounds_toArray, List.set_cons_zero, List.set_cons_succ]
    refine wpAnyH_ready (rs := [12]) (by kernel_rfl) (by simp) ?_
    refine AllReadyH.cons (o := { dst := some 43, op := Op.call { callee := Callee.value (Operand.func 26), args := #[Operand.tmp 42], argTypes := #[33] }, type := 33, pos := "law.go:31", after := #[{ on := 11, ground := Ground.data }, { on := 8, ground := Ground.chain }, { on := 8, ground := Ground.guard }], guard := some (8, true) }) rfl (fun K hK => ?_) AllReadyH.nil
    go_simp
    (go_at_call 26; (with_reducible refine (rseal_any _ _ _ _ (HR0.out.ext (by assumption)) HB.out hl1.out).mono ?_); rintro e w8 ⟨v8, rfl, ho8, hx8⟩; obtain ⟨A8, c8, rfl, hr8, _⟩ := ho8.read; have k8 := fun (w' : World) (hx : Ext w8 w') => run_str (P := Try.prog) (hr8.ext hx) 33 5 9 Try.underlying33 Try.underlying5 Try.underlying9 c8; have hx48 : Ext w4 w8 := (by assumption : Ext w4 _).trans hx8; clear hx8)
    refine hK.out _ _ ?_ (fun hHeld => ?_)
    · (repeat (first | exact Ext.refl _ | assumption | (with_reducible refine Ext.alloc ?_ _) | (with_reducible refine Ext.drew ?_) | (with_reducible refine Ext.drewN ?_ _) | (refine Ext.trans ?_ (by assumption))))
    clear hK K
    try simp only [Act.put, List.setIfInBounds_toArray, List.set_cons_zero, List.set_cons_succ]
    refine wpAnyH_mono (S' := fun w' => Ext w8 w') (fun w' hw' => hx48.trans hw') ?_
    replace hHeld : Ext w8 w8 := Ext.refl _
    replace k0 := fun (w' : World) (hx : Ext w8 w') => k0 w' (hx48.trans hx)
    replace k2 := fun (w' : World) (hx : Ext w8 w') => k2 w' (hx48.trans hx)
    replace k3 := fun (w' : World) (hx : Ext w8 w') => k3 w' (hx48.trans hx)
    replace k4 := fun (w' : World) (hx : Ext w8 w') => k4 w' (hx48.trans hx)
    refine wpAnyH_take (i := 13) (oi := { dst := some 44, op := Op.convert 33 9 (Operand.tmp 43), type := 9, pos := "law.go:31", after := #[{ on := 12, ground := Ground.data }, { on := 8, ground := Ground.guard }], guard := some (8, true) }) (v := ?_) rfl (by kernel_rfl) (by kernel_rfl) (by kernel_rfl) (fun _ _ _ h => h) (Or.inl ⟨by rfl, ?_⟩) (by assumption) ?_
    rotate_left
    · (intro w' hSw; go_simp; try with_reducible rfl)
    try simp only [Act.put, List.setIfInBounds_toArray, List.set_cons_zero, List.set_cons_succ]
    refine wpAnyH_take (i := 14) (oi := { dst := some 45, op := Op.binOp BinOp.eql 9 (Operand.tmp 41) (Operand.tmp 44) 9, type := 4, pos := "law.go:31", after := #[{ on := 10, ground := Ground.data }, { on := 13, ground := Ground.data }, { on := 8, ground := Ground.guard }], guard := some (8, true) }) (v := ?_) rfl (by kernel_rfl) (by kernel_rfl) (by kernel_rfl) (fun _ _ _ h => h) (Or.inl ⟨by rfl, ?_⟩) (by assumption) ?_
    rotate_left
    · (intro w' hSw; go_simp; try with_reducible rfl)
    try simp only [Act.put, List.setIfInBounds_toArray, List.set_cons_zero, List.set_cons_succ]
    refine wpAnyH_take (i := 15) (oi := { dst := some 46, op := Op.pick (Operand.tmp 39) (Operand.tmp 45) (Operand.const (Value.bool false)), type := 4, pos := "law.go:31", after := #[{ on := 8, ground := Ground.data }, { on := 14, ground := Ground.data }], guard := none }) (v := ?_) rfl (by kernel_rfl) (by kernel_rfl) (by kernel_rfl) (fun _ _ _ h => h) (Or.inl ⟨by rfl, ?_⟩) (by assumption) ?_
    rotate_left
    · (intro w' hSw; go_simp; try with_reducible rfl)
    try simp only [Act.put, List.setIfInBounds_toArray, List.set_cons_zero, List.set_cons_succ]
    refine wpAnyH_take (i := 16) (oi := { dst := some 47, op := Op.move (Operand.tmp 46), type := 4, pos := "law.go:31", after := #[{ on := 15, ground := Ground.data }, { on := 12, ground := Ground.chain }], guard := none }) (v := ?_) rfl (by kernel_rfl) (by kernel_rfl) (by kernel_rfl) (fun _ _ _ h => h) (Or.inl ⟨by rfl, ?_⟩) (by assumption) ?_
    rotate_left
    · (intro w' hSw; go_simp; try with_reducible rfl)
    try simp only [Act.put, List.setIfInBounds_toArray, List.set_cons_zero, List.set_cons_succ]
    refine wpAnyH_take (i := 17) (oi := { dst := some 48, op := Op.move (Operand.tmp 4), type := 33, pos := "law.go:31", after := #[{ on := 16, ground := Ground.guard }], guard := some (16, true) }) (v := ?_) rfl (by kernel_rfl) (by kernel_rfl) (by kernel_rfl) (fun _ _ _ h => h) (Or.inl ⟨by rfl, ?_⟩) (by assumption) ?_
    rotate_left
    · (intro w' hSw; go_simp; try with_reducible rfl)
    try simp only [Act.put, List.setIfInBounds_toArray, List.set_cons_zero, List.set_cons_succ]
    refine wpAnyH_take (i := 18) (oi := { dst := some 49, op := Op.convert 33 9 (Operand.tmp 48), type := 9, pos := "law.go:31", after := #[{ on := 17, ground := Ground.data }, { on := 16, ground := Ground.guard }], guard := some (16, true) }) (v := ?_) rfl (by kernel_rfl) (by kernel_rfl) (by kernel_rfl) (fun _ _ _ h => h) (Or.inl ⟨by rfl, ?_⟩) (by assumption) ?_
    rotate_left
    · (intro w' hSw; go_simp; try with_reducible rfl)
    try simp only [Act.put, List.setIfInBounds_toArray, List.set_cons_zero, List.set_cons_succ]
    refine wpAnyH_take (i := 19) (oi := { dst := some 50, op := Op.move (Operand.tmp 6), type := 33, pos := "law.go:31", after := #[{ on := 16, ground := Ground.guard }], guard := some (16, true) }) (v := ?_) rfl (by kernel_rfl) (by kernel_rfl) (by kernel_rfl) (fun _ _ _ h => h) (Or.inl ⟨by rfl, ?_⟩) (by assumption) ?_
    rotate_left
    · (intro w' hSw; go_simp; try with_reducible rfl)
    try simp only [Act.put, List.setIfInBounds_toArray, List.set_cons_zero, List.set_cons_succ]
    refine wpAnyH_take (i := 20) (oi := { dst := some 51, op := Op.convert 33 9 (Operand.tmp 50), type := 9, pos := "law.go:31", after := #[{ on := 19, ground := Ground.data }, { on := 16, ground := Ground.guard }], guard := some (16, true) }) (v := ?_) rfl (by kernel_rfl) (by kernel_rfl) (by kernel_rfl) (fun _ _ _ h => h) (Or.inl ⟨by rfl, ?_⟩) (by assumption) ?_
    rotate_left
    · (intro w' hSw; go_simp; try with_reducible rfl)
    try simp only [Act.put, List.setIfInBounds_toArray, List.set_cons_zero, List.set_cons_succ]
    refine wpAnyH_take (i := 21) (oi := { dst := some 52, op := Op.binOp BinOp.eql 9 (Operand.tmp 49) (Operand.tmp 51) 9, type := 4, pos := "law.go:31", after := #[{ on := 18, ground := Ground.data }, { on := 20, ground := Ground.data }, { on := 16, ground := Ground.guard }], guard := some (16, true) }) (v := ?_) rfl (by kernel_rfl) (by kernel_rfl) (by kernel_rfl) (fun _ _ _ h => h) (Or.inl ⟨by rfl, ?_⟩) (by assumption) ?_
    rotate_left
    · (intro w' hSw; go_simp; try with_reducible rfl)
    try simp only [Act.put, List.setIfInBounds_toArray, List.set_cons_zero, List.set_cons_succ]
    refine wpAnyH_take (i := 22) (oi := { dst := some 53, op := Op.pick (Operand.tmp 47) (Operand.tmp 52) (Operand.const (Value.bool false)), type := 4, pos := "law.go:31", after := #[{ on := 16, ground := Ground.data }, { on := 21, ground := Ground.data }], guard := none }) (v := ?_) rfl (by kernel_rfl) (by kernel_rfl) (by kernel_rfl) (fun _ _ _ h => h) (Or.inl ⟨by rfl, ?_⟩) (by assumption) ?_
    rotate_left
    · (intro w' hSw; go_simp; try with_reducible rfl)
    try simp only [Act.put, List.setIfInBounds_toArray, List.set_cons_zero, List.set_cons_succ]
    refine wpAnyH_take (i := 23) (oi := { dst := some 54, op := Op.move (Operand.tmp 53), type := 4, pos := "law.go:31", after := #[{ on := 22, ground := Ground.data }, { on := 16, ground := Ground.chain }], guard := none }) (v := ?_) rfl (by kernel_rfl) (by kernel_rfl) (by kernel_rfl) (fun _ _ _ h => h) (Or.inl ⟨by rfl, ?_⟩) (by assumption) ?_
    rotate_left
    · (intro w' hSw; go_simp; try with_reducible rfl)
    try simp only [Act.put, List.setIfInBounds_toArray, List.set_cons_zero, List.set_cons_succ]
    refine wpAnyH_take (i := 24) (oi := { dst := some 55, op := Op.move (Operand.tmp 5), type := 35, pos := "law.go:31", after := #[{ on := 23, ground := Ground.guard }], guard := some (23, true) }) (v := ?_) rfl (by kernel_rfl) (by kernel_rfl) (by kernel_rfl) (fun _ _ _ h => h) (Or.inl ⟨by rfl, ?_⟩) (by assumption) ?_
    rotate_left
    · (intro w' hSw; go_simp; try with_reducible rfl)
    try simp only [Act.put, List.setIfInBounds_toArray, List.set_cons_zero, List.set_cons_succ]
    refine wpAnyH_take (i := 25) (oi := { dst := some 56, op := Op.move (Operand.tmp 7), type := 35, pos := "law.go:31", after := #[{ on := 23, ground := Ground.guard }], guard := some (23, true) }) (v := ?_) rfl (by kernel_rfl) (by kernel_rfl) (by kernel_rfl) (fun _ _ _ h => h) (Or.inl ⟨by rfl, ?_⟩) (by assumption) ?_
    rotate_left
    · (intro w' hSw; go_simp; try with_reducible rfl)
    try simp only [Act.put, List.setIfInBounds_toArray, List.set_cons_zero, List.set_cons_succ]
    refine wpAnyH_take (i := 26) (oi := { dst := some 57, op := Op.binOp BinOp.eql 35 (Operand.tmp 55) (Operand.tmp 56) 35, type := 4, pos := "law.go:31", after := #[{ on := 24, ground := Ground.data }, { on := 25, ground := Ground.data }, { on := 23, ground := Ground.guard }], guard := some (23, true) }) (v := ?_) rfl (by kernel_rfl) (by kernel_rfl) (by kernel_rfl) (fun _ _ _ h => h) (Or.inl ⟨by rfl, ?_⟩) (by assumption) ?_
    rotate_left
    · (intro w' hSw; go_simp; try with_reducible rfl)
    try simp only [Act.put, List.setIfInBounds_toArray, List.set_cons_zero, List.set_cons_succ]
    refine wpAnyH_take (i := 27) (oi := { dst := some 58, op := Op.pick (Operand.tmp 54) (Operand.tmp 57) (Operand.const (Value.bool false)), type := 4, pos := "law.go:31", after := #[{ on := 23, ground := Ground.data }, { on := 26, ground := Ground.data }], guard := none }) (v := ?_) rfl (by kernel_rfl) (by kernel_rfl) (by kernel_rfl) (fun _ _ _ h => h) (Or.inl ⟨by rfl, ?_⟩) (by assumption) ?_
    rotate_left
    · (intro w' hSw; go_simp; try with_reducible rfl)
    try simp only [Act.put, List.setIfInBounds_toArray, List.set_cons_zero, List.set_cons_succ]
    refine wpAnyH_take (i := 28) (oi := { dst := some 59, op := Op.move (Operand.tmp 58), type := 4, pos := "law.go:31", after := #[{ on := 27, ground := Ground.data }, { on := 23, ground := Ground.chain }], guard := none }) (v := ?_) rfl (by kernel_rfl) (by kernel_rfl) (by kernel_rfl) (fun _ _ _ h => h) (Or.inl ⟨by rfl, ?_⟩) (by assumption) ?_
    rotate_left
    · (intro w' hSw; go_simp; try with_reducible rfl)
    try simp only [Act.put, List.setIfInBounds_toArray, List.set_cons_zero, List.set_cons_succ]
    refine wpAnyH_take (i := 29) (oi := { dst := some 60, op := Op.move (Operand.tmp 8), type := 33, pos := "law.go:31", after := #[{ on := 28, ground := Ground.guard }], guard := some (28, true) }) (v := ?_) rfl (by kernel_rfl) (by kernel_rfl) (by kernel_rfl) (fun _ _ _ h => h) (Or.inl ⟨by rfl, ?_⟩) (by assumption) ?_
    rotate_left
    · (intro w' hSw; go_simp; try with_reducible rfl)
    try simp only [Act.put, List.setIfInBounds_toArray, List.set_cons_zero, List.set_cons_succ]
    refine wpAnyH_take (i := 30) (oi := { dst := some 61, op := Op.convert 33 9 (Operand.tmp 60), type := 9, pos := "law.go:31", after := #[{ on := 29, ground := Ground.data }, { on := 28, ground := Ground.guard }], guard := some (28, true) }) (v := ?_) rfl (by kernel_rfl) (by kernel_rfl) (by kernel_rfl) (fun _ _ _ h => h) (Or.inl ⟨by rfl, ?_⟩) (by assumption) ?_
    rotate_left
    · (intro w' hSw; go_simp; try with_reducible rfl)
    try simp only [Act.put, List.setIfInBounds_toArray, List.set_cons_zero, List.set_cons_succ]
    refine wpAnyH_take (i := 31) (oi := { dst := some 62, op := Op.move (Operand.tmp 0), type := 33, pos := "law.go:31", after := #[{ on := 28, ground := Ground.guard }], guard := some (28, true) }) (v := ?_) rfl (by kernel_rfl) (by kernel_rfl) (by kernel_rfl) (fun _ _ _ h => h) (Or.inl ⟨by rfl, ?_⟩) (by assumption) ?_
    rotate_left
    · (intro w' hSw; go_simp; try with_reducible rfl)
    try simp only [Act.put, List.setIfInBounds_toArray, List.set_cons_zero, List.set_cons_succ]
    refine wpAnyH_take (i := 32) (oi := { dst := some 63, op := Op.convert 33 9 (Operand.tmp 62), type := 9, pos := "law.go:31", after := #[{ on := 31, ground := Ground.data }, { on := 28, ground := Ground.guard }], guard := some (28, true) }) (v := ?_) rfl (by kernel_rfl) (by kernel_rfl) (by kernel_rfl) (fun _ _ _ h => h) (Or.inl ⟨by rfl, ?_⟩) (by assumption) ?_
    rotate_left
    · (intro w' hSw; go_simp; try with_reducible rfl)
    try simp only [Act.put, List.setIfInBounds_toArray, List.set_cons_zero, List.set_cons_succ]
    refine wpAnyH_take (i := 33) (oi := { dst := some 64, op := Op.binOp BinOp.eql 9 (Operand.tmp 61) (Operand.tmp 63) 9, type := 4, pos := "law.go:31", after := #[{ on := 30, ground := Ground.data }, { on := 32, ground := Ground.data }, { on := 28, ground := Ground.guard }], guard := some (28, true) }) (v := ?_) rfl (by kernel_rfl) (by kernel_rfl) (by kernel_rfl) (fun _ _ _ h => h) (Or.inl ⟨by rfl, ?_⟩) (by assumption) ?_
    rotate_left
    · (intro w' hSw; go_simp; try with_reducible rfl)
    try simp only [Act.put, List.setIfInBounds_toArray, List.set_cons_zero, List.set_cons_succ]
    refine wpAnyH_take (i := 34) (oi := { dst := some 65, op := Op.pick (Operand.tmp 59) (Operand.tmp 64) (Operand.const (Value.bool false)), type := 4, pos := "law.go:31", after := #[{ on := 28, ground := Ground.data }, { on := 33, ground := Ground.data }], guard := none }) (v := ?_) rfl (by kernel_rfl) (by kernel_rfl) (by kernel_rfl) (fun _ _ _ h => h) (Or.inl ⟨by rfl, ?_⟩) (by assumption) ?_
    rotate_left
    · (intro w' hSw; go_simp; try with_reducible rfl)
    try simp only [Act.put, List.setIfInBounds_toArray, List.set_cons_zero, List.set_cons_succ]
    refine wpAnyH_take (i := 35) (oi := { dst := some 66, op := Op.move (Operand.tmp 65), type := 4, pos := "law.go:31", after := #[{ on := 34, ground := Ground.data }, { on := 28, ground := Ground.chain }], guard := none }) (v := ?_) rfl (by kernel_rfl) (by kernel_rfl) (by kernel_rfl) (fun _ _ _ h => h) (Or.inl ⟨by rfl, ?_⟩) (by assumption) ?_
    rotate_left
    · (intro w' hSw; go_simp; try with_reducible rfl)
    try simp only [Act.put, List.setIfInBounds_toArray, List.set_cons_zero, List.set_cons_succ]
    refine wpAnyH_take (i := 36) (oi := { dst := some 67, op := Op.move (Operand.tmp 9), type := 35, pos := "law.go:31", after := #[{ on := 35, ground := Ground.guard }], guard := some (35, true) }) (v := ?_) rfl (by kernel_rfl) (by kernel_rfl) (by kernel_rfl) (fun _ _ _ h => h) (Or.inl ⟨by rfl, ?_⟩) (by assumption) ?_
    rotate_left
    · (intro w' hSw; go_simp; try with_reducible rfl)
    try simp only [Act.put, List.setIfInBounds_toArray, List.set_cons_zero, List.set_cons_succ]
    refine wpAnyH_take (i := 37) (oi := { dst := some 68, op := Op.binOp BinOp.eql 35 (Operand.tmp 67) (Operand.const (Value.int IntKind.i64 0)) 35, type := 4, pos := "law.go:31", after := #[{ on := 36, ground := Ground.data }, { on := 35, ground := Ground.guard }], guard := some (35, true) }) (v := ?_) rfl (by kernel_rfl) (by kernel_rfl) (by kernel_rfl) (fun _ _ _ h => h) (Or.inl ⟨by rfl, ?_⟩) (by assumption) ?_
    rotate_left
    · (intro w' hSw; go_simp; try with_reducible rfl)
    try simp only [Act.put, List.setIfInBounds_toArray, List.set_cons_zero, List.set_cons_succ]
    refine wpAnyH_take (i := 38) (oi := { dst := some 69, op := Op.pick (Operand.tmp 66) (Operand.tmp 68) (Operand.const (Value.bool false)), type := 4, pos := "law.go:31", after := #[{ on := 35, ground := Ground.data }, { on := 37, ground := Ground.data }], guard := none }) (v := ?_) rfl (by kernel_rfl) (by kernel_rfl) (by kernel_rfl) (fun _ _ _ h => h) (Or.inl ⟨by rfl, ?_⟩) (by assumption) ?_
    rotate_left
    · (intro w' hSw; go_simp; try with_reducible rfl)
    try simp only [Act.put, List.setIfInBounds_toArray, List.set_cons_zero, List.set_cons_succ]
    refine wpAnyH_take (i := 39) (oi := { dst := some 2, op := Op.assign (Operand.tmp 69), type := 4, pos := "law.go:31", after := #[{ on := 38, ground := Ground.data }, { on := 35, ground := Ground.chain }, { on := 0, ground := Ground.phase }, { on := 1, ground := Ground.phase }, { on := 2, ground := Ground.phase }, { on := 3, ground := Ground.phase }, { on := 4, ground := Ground.phase }, { on := 5, ground := Ground.phase }, { on := 6, ground := Ground.phase }, { on := 7, ground := Ground.phase }, { on := 8, ground := Ground.phase }, { on := 9, ground := Ground.phase }, { on := 10, ground := Ground.phase }, { on := 11, ground := Ground.phase }, { on := 12, ground := Ground.phase }, { on := 13, ground := Ground.phase }, { on := 14, ground := Ground.phase }, { on := 15, ground := Ground.phase }, { on := 16, ground := Ground.phase }, { on := 17, ground := Ground.phase }, { on := 18, ground := Ground.phase }, { on := 19, ground := Ground.phase }, { on := 20, ground := Ground.phase }, { on := 21, ground := Ground.phase }, { on := 22, ground := Ground.phase }, { on := 23, ground := Ground.phase }, { on := 24, ground := Ground.phase }, { on := 25, ground := Ground.phase }, { on := 26, ground := Ground.phase }, { on := 27, ground := Ground.phase }, { on := 28, ground := Ground.phase }, { on := 29, ground := Ground.phase }, { on := 30, ground := Ground.phase }, { on := 31, ground := Ground.phase }, { on := 32, ground := Ground.phase }, { on := 33, ground := Ground.phase }, { on := 34, ground := Ground.phase }, { on := 35, ground := Ground.phase }, { on := 36, ground := Ground.phase }, { on := 37, ground := Ground.phase }, { on := 38, ground := Ground.phase }], guard := none }) (v := ?_) rfl (by kernel_rfl) (by kernel_rfl) (by kernel_rfl) (fun _ _ _ h => h) (Or.inl ⟨by rfl, ?_⟩) (by assumption) ?_
    rotate_left
    · (intro w' hSw; go_simp; try with_reducible rfl)
    try simp only [Act.put, List.setIfInBounds_toArray, List.set_cons_zero, List.set_cons_succ]
    refine wpAnyH_done (by kernel_rfl) ?_ _
    go_wp2
    go_ret
    exact ⟨ret_eq rfl, hX.out.trans hx48⟩
end Go.Proofs.Ytkepmkdnmmofmaa
