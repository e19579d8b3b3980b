/-
  The laws of layer 20: the live question, walked. Conditions: none.
-/
import Derived.Test.YtkepmkdnmmofmaaOct4
set_option linter.unusedVariables false
set_option linter.unusedSimpArgs false
namespace Go.Proofs.Ytkepmkdnmmofmaa
open Go.RowKit

structure PutRes (b p : Nat) (v : Value) (ys : List Int) (bad : Bool) (w w' : World) : Prop where mk :: (out : ∃ v', Wr b w' p v' ys bad ∧ Chg (WF p v) w w' ∧ Fresh v v' w.heap.size)
theorem Wr.new (b : Nat) (w : World) (n : Nat) (hn : n = w.heap.size) (hb : b ≤ w.heap.size) : Wr b (w.alloc (.cells #[.slice none 0 0, .bool false] 61)) n (.slice none 0 0) [] false := by
  subst hn
  exact ⟨hb, Lies.new _ _ _ _ rfl, Own.nil _ _ _ _, by simp [Value.ownBlock]⟩
theorem Wr.ext {b : Nat} {w w' : World} {p : Nat} {v : Value} {xs : List Int} {bad : Bool} (h : Wr b w p v xs bad) (hx : Ext w w') : Wr b w' p v xs bad := ⟨h.ge, h.lies.ext hx, h.own.ext hx, h.ne⟩
theorem Wr.far {b : Nat} {w : World} {p : Nat} {v : Value} {xs : List Int} {bad : Bool} (h : Wr b w p v xs bad) : ∀ i, w.heap.size ≤ i → ¬ WF p v i := by
  rintro i hi (h1 | h1)
  · have := h.lies.lt; omega
  · have := (h.own.lt i h1).2; omega
theorem Wr.base {b : Nat} {w : World} {p : Nat} {v : Value} {xs : List Int} {bad : Bool} (h : Wr b w p v xs bad) {i : Nat} (hi : WF p v i) : b ≤ i := by
  rcases hi with h1 | h1
  · have := h.ge; omega
  · exact (h.own.lt i h1).1
theorem put_lit1 (b p : Nat) (v : Value) (xs : List Int) (bad : Bool) (w : World) (x : Int) (t n : Nat) (hn : n = w.heap.size) (hw : Wr b w p v xs bad) (hl : xs.length ≤ 1000000) :
    Calls Try.prog 43 #[.pointer (some ⟨p, 0, none⟩), .slice (some ⟨n, 0, none⟩) 1 1] (w.alloc (.cells #[.int .i64 x] t)) fun e w' => e = .returned (.pointer (some ⟨p, 0, none⟩)) ∧ PutRes b p v (xs ++ encF [x] 1) (bad || badF [x] 1) w w' := by
  subst hn
  refine (put_any b p _ 1 v [x] xs bad _ (rdK_new1 .i64 w x t) (hw.ext ((Ext.refl _).alloc _)) (fun ad e _ => ?_) (by simp; omega)).mono ?_
  · injection e with e; subst e; exact hw.far _ (Nat.le_refl _)
  · rintro e w' ⟨rfl, v', h1, h2, h3⟩
    refine ⟨rfl, ⟨v', h1, (((Ext.refl w).alloc _).chg _).trans h2 (fun _ _ h => h), fun k hk => (h3 k hk).imp id fun h => ?_⟩⟩
    have : (w.alloc (.cells #[.int .i64 x] t)).heap.size = w.heap.size + 1 := by simp
    omega
theorem put_lit2 (b p : Nat) (v : Value) (xs : List Int) (bad : Bool) (w : World) (x y : Int) (t n : Nat) (hn : n = w.heap.size) (hw : Wr b w p v xs bad) (hl : xs.length ≤ 1000000) :
    Calls Try.prog 43 #[.pointer (some ⟨p, 0, none⟩), .slice (some ⟨n, 0, none⟩) 2 2] (w.alloc (.cells #[.int .i64 x, .int .i64 y] t)) fun e w' => e = .returned (.pointer (some ⟨p, 0, none⟩)) ∧ PutRes b p v (xs ++ encF [x, y] 2) (bad || badF [x, y] 2) w w' := by
  subst hn
  refine (put_any b p _ 2 v [x, y] xs bad _ (rdK_new2 .i64 w x y t) (hw.ext ((Ext.refl _).alloc _)) (fun ad e _ => ?_) (by simp; omega)).mono ?_
  · injection e with e; subst e; exact hw.far _ (Nat.le_refl _)
  · rintro e w' ⟨rfl, v', h1, h2, h3⟩
    refine ⟨rfl, ⟨v', h1, (((Ext.refl w).alloc _).chg _).trans h2 (fun _ _ h => h), fun k hk => (h3 k hk).imp id fun h => ?_⟩⟩
    have : (w.alloc (.cells #[.int .i64 x, .int .i64 y] t)).heap.size = w.heap.size + 1 := by simp
    omega
theorem put_zero (b p : Nat) (v : Value) (xs : List Int) (bad : Bool) (w : World) (hw : Wr b w p v xs bad) :
    Calls Try.prog 43 #[.pointer (some ⟨p, 0, none⟩), .slice none 0 0] w fun e w' => e = .returned (.pointer (some ⟨p, 0, none⟩)) ∧ w = w' := by
  go_enter Try.func43, Try.ntmps43
  go_wp2
  go_loop [6, 11] (fun _ j => j = .int .i64 0) (fun _ _ => 0)
  case atStart => rfl
  case round =>
    subst hrel
    go_wp2
    go_ret
    exact ⟨ret_eq rfl, rfl⟩
theorem wbytes_ok (b p : Nat) (v : Value) (xs : List Int) (w : World) (hw : Wr b w p v xs false) (hl : xs.length ≤ 140737488355328) :
    Calls Try.prog 44 #[.pointer (some ⟨p, 0, none⟩)] w (RetOwnE 5 .u8 w xs 0) := wbytes_any b p v xs false w hw hl
theorem wbytes_bad (b p : Nat) (v : Value) (xs : List Int) (w : World) (hw : Wr b w p v xs true) (hl : xs.length ≤ 140737488355328) :
    Calls Try.prog 44 #[.pointer (some ⟨p, 0, none⟩)] w (RetOwnE 5 .u8 w [] 1) := wbytes_any b p v xs true w hw hl
set_option maxRecDepth 20000 in
set_option maxHeartbeats 4000000 in
theorem alive20_any (w : World) : Calls Try.prog 42 #[] w fun e w' => e = .returned (.bool true) ∧ Ext w w' := by
  have hO : oneN 300 = [172, 2] := by rw [oneN_big (by decide), oneN_small (by decide)]; rfl
  have hO0 : oneN 0 = [0] := oneN_small (by decide)
  have hO1 : oneN 127 = [127] := oneN_small (by decide)
  have hE1 : ([] : List Int) ++ encF [0, 300] 2 = [0, 172, 2] := by simp [encF, nth, okW, hO, hO0]
  have hE2 : [0, 172, 2] ++ encF [127] 1 = [0, 172, 2, 127] := by simp [encF, nth, okW, hO1]
  have hB1 : (false || badF [0, 300] 2) = false := by decide
  have hB2 : (false || badF [127] 1) = false := by decide
  obtain ⟨L, hL⟩ : ∃ L : List Int, L = [0, 172, 2, 127] := ⟨_, rfl⟩
  obtain ⟨L2, hL2⟩ : ∃ L : List Int, L = [172, 2, 127] := ⟨_, rfl⟩
  obtain ⟨L3, hL3⟩ : ∃ L : List Int, L = [127] := ⟨_, rfl⟩
  rw [← hL] at hE2
  have H1 := Lib.hid hE1; have H2 := Lib.hid hE2; have H3 := Lib.hid hB1; have H4 := Lib.hid hB2
  clear hO hO0 hO1 hE1 hE2 hB1 hB2
  have hb4 : Bytes L := by subst hL; intro x hx; simp at hx; omega
  have g1 : getV L false 9 = 0 ∧ getR L false 9 = L2 ∧ getB L false 9 = false := by subst hL hL2; decide +kernel
  have g2 : getV L2 false 1099511627776 = 300 ∧ getR L2 false 1099511627776 = L3 ∧ getB L2 false 1099511627776 = false := by subst hL2 hL3; decide +kernel
  have g3 : getV L3 false 126 = 0 ∧ getB L3 false 126 = true := by subst hL3; decide +kernel
  have g4 : leftV L3 false = 1 := by subst hL3; rfl
  have hs : ((strOfNums L).toList == [0, 172, 2, 127]) = true := by subst hL; decide +kernel
  have hl : L.length ≤ 140737488355328 := by subst hL; decide
  have HB := Lib.hid hb4; clear hb4
  have G1 := Lib.hid g1; clear g1
  have G2 := Lib.hid g2; clear g2
  have G3 := Lib.hid g3; clear g3
  have G4 := Lib.hid g4; clear g4
  clear hL hL2 hL3
  go_enter Try.func42, Try.ntmps42
  go_wp2_with (first
    | (go_at_call 43; (with_reducible refine (put_lit2 w.heap.size _ _ _ _ _ _ _ _ _ (by simp) (Wr.new _ _ _ rfl (Nat.le_refl _)) (by simp)).mono ?_); rintro e w1 ⟨rfl, ⟨v1, hw1, hc1, hf1⟩⟩; rw [H1.out, H3.out] at hw1)
    | (go_at_call 43; (with_reducible refine (put_lit1 w.heap.size _ _ _ _ _ _ _ _ (by simp) hw1 (by simp)).mono ?_); rintro e w2 ⟨rfl, ⟨v2, hw2, hc2, hf2⟩⟩; rw [H2.out, H4.out] at hw2)
    | (go_at_call 44; (with_reducible refine (wbytes_ok _ _ _ _ _ hw2 hl).mono ?_); rintro e w3 ⟨v3, rfl, ho3, hx3⟩; obtain ⟨A3, c3, rfl, hr3, _⟩ := ho3.read)
    | (go_at_call 46; (with_reducible refine (read_any _ _ _ _ hr3 HB.out hl).mono ?_); rintro e w4 ⟨p4, A4, c4, rfl, hp4, hr4, hb4', hx4⟩)
    | (go_at_call 47; (with_reducible refine (get_any _ _ _ _ _ 9 _ hr4).mono ?_); rintro e w5 ⟨rfl, ⟨A5, c5, hr5, hc5, hs5⟩⟩; rw [G1.out.1]; rw [G1.out.2.1, G1.out.2.2] at hr5)
    | (go_at_call 47; (with_reducible refine (get_any _ _ _ _ _ 1099511627776 _ hr5).mono ?_); rintro e w6 ⟨rfl, ⟨A6, c6, hr6, hc6, hs6⟩⟩; rw [G2.out.1]; rw [G2.out.2.1, G2.out.2.2] at hr6)
    | (go_at_call 50; (with_reducible refine (left_any _ _ _ _ _ _ hr6).mono ?_); rintro e w6' ⟨rfl, rfl⟩; rw [G4.out])
    | (go_at_call 47; (with_reducible refine (get_any _ _ _ _ _ 126 _ hr6).mono ?_); rintro e w7 ⟨rfl, ⟨A7, c7, hr7, hc7, hs7⟩⟩; rw [G3.out.1]; rw [G3.out.2] at hr7; have hr3' := (hr3.ext hx4).chg ((hc5.trans hc6 (fun _ _ h => h)).trans hc7 (fun _ _ h => h)) (fun ad e _ h => by have := (ho3.blk ad e).2.1; omega); have k1 := run_str (P := Try.prog) (w := w7) hr3' 33 5 9 Try.underlying33 Try.underlying5 Try.underlying9 c3)
    | (go_at_call 49; (with_reducible refine (rfailed_any _ _ _ _ _ _ hr7).mono ?_); rintro e w' ⟨rfl, rfl⟩))
  go_ret
  refine ⟨ret_eq rfl, ?_⟩
  have d1 : Chg (fun i => w.heap.size ≤ i) w w1 := (((Ext.refl w).alloc _).chg _).trans hc1 (fun i _ h => (Wr.new _ _ _ rfl (Nat.le_refl _)).base h)
  have d4 := ((d1.trans hc2 (fun i _ h => hw1.base h)).ext hx3).ext hx4
  have d3 := (d1.trans hc2 (fun i _ h => hw1.base h)).ext hx3
  refine (d4.trans ((hc5.trans hc6 (fun _ _ h => h)).trans hc7 (fun _ _ h => h)) (fun i _ h => ?_)).low (fun i hi h => by omega)
  have := d3.size
  show w.heap.size ≤ i
  omega
end Go.Proofs.Ytkepmkdnmmofmaa
