/-
  The law AffineMakes, walked. Conditions: none. (Printed by tools/genlaw03b.py.)
-/
import Derived.Test.YtmgckodihnmjoaaLaw03a
set_option linter.unusedVariables false
set_option linter.unusedSimpArgs false
namespace Go.Proofs.Ytmgckodihnmjoaa
open Go.RowKit

theorem turn_c (ax : Int) : turnV ax = turnV 0 ∨ turnV ax = turnV 1 ∨ turnV ax = turnV 2 := by
  have h0 : turnC 0 = 0 := by decide
  have h1 : turnC 1 = 1 := by decide
  have h2 : turnC 2 = 2 := by decide
  have h : turnC ax = 0 ∨ turnC ax = 1 ∨ turnC ax = 2 := by
    unfold turnC; rcases tmod3 ax with h | h | h | h | h <;> rw [h] <;> decide
  rcases h with h | h | h
  · left; funext j; unfold turnV; rw [h, h0]
  · right; left; funext j; unfold turnV; rw [h, h1]
  · right; right; funext j; unfold turnV; rw [h, h2]
def fourB (v : Nat → Int) : Bool := mulME (fun _ => v) 4 == 0 && (List.range 12).all (fun j => mulMR (fun _ => v) 4 j == diagV 65536 65536 65536 j)
theorem four_ok : fourB (turnV 0) = true ∧ fourB (turnV 1) = true ∧ fourB (turnV 2) = true := by decide +kernel
theorem four_any (ax : Int) : mulME (fun _ => turnV ax) 4 = 0 ∧ ∀ j, j < 12 → mulMR (fun _ => turnV ax) 4 j = diagV 65536 65536 65536 j := by
  have h : fourB (turnV ax) = true := by
    rcases turn_c ax with h | h | h
    · rw [h]; exact four_ok.1
    · rw [h]; exact four_ok.2.1
    · rw [h]; exact four_ok.2.2
  unfold fourB at h
  simp only [Bool.and_eq_true, beq_iff_eq, List.all_eq_true, List.mem_range] at h
  exact h
set_option maxRecDepth 20000 in
set_option maxHeartbeats 12800000 in
theorem makes03_any (x y z ax : Int) (w : World) :
    Calls Try.prog 7 #[.agg #[.int .i64 x, .int .i64 y, .int .i64 z], .int .i64 ax] w fun e w' => e = .returned (.bool true) ∧ Ext w w' := by
  have q1 : ∀ w, (binOp .eql 49 (.agg #[.int .i64 ((diagV 65536 65536 65536) 0), .int .i64 ((diagV 65536 65536 65536) 1), .int .i64 ((diagV 65536 65536 65536) 2), .int .i64 ((diagV 65536 65536 65536) 3), .int .i64 ((diagV 65536 65536 65536) 4), .int .i64 ((diagV 65536 65536 65536) 5), .int .i64 ((diagV 65536 65536 65536) 6), .int .i64 ((diagV 65536 65536 65536) 7), .int .i64 ((diagV 65536 65536 65536) 8), .int .i64 ((diagV 65536 65536 65536) 9), .int .i64 ((diagV 65536 65536 65536) 10), .int .i64 ((diagV 65536 65536 65536) 11)]) (.agg #[.int .i64 ((diagV 65536 65536 65536) 0), .int .i64 ((diagV 65536 65536 65536) 1), .int .i64 ((diagV 65536 65536 65536) 2), .int .i64 ((diagV 65536 65536 65536) 3), .int .i64 ((diagV 65536 65536 65536) 4), .int .i64 ((diagV 65536 65536 65536) 5), .int .i64 ((diagV 65536 65536 65536) 6), .int .i64 ((diagV 65536 65536 65536) 7), .int .i64 ((diagV 65536 65536 65536) 8), .int .i64 ((diagV 65536 65536 65536) 9), .int .i64 ((diagV 65536 65536 65536) 10), .int .i64 ((diagV 65536 65536 65536) 11)])).run Try.prog w = .ok (.bool true) w := fun w => by rw [meq_run]; simp
  have q2 : ∀ w, (binOp .eql 49 (.agg #[.int .i64 ((moveV x y z) 0), .int .i64 ((moveV x y z) 1), .int .i64 ((moveV x y z) 2), .int .i64 ((moveV x y z) 3), .int .i64 ((moveV x y z) 4), .int .i64 ((moveV x y z) 5), .int .i64 ((moveV x y z) 6), .int .i64 ((moveV x y z) 7), .int .i64 ((moveV x y z) 8), .int .i64 ((moveV x y z) 9), .int .i64 ((moveV x y z) 10), .int .i64 ((moveV x y z) 11)]) (.agg #[.int .i64 ((moveV x y z) 0), .int .i64 ((moveV x y z) 1), .int .i64 ((moveV x y z) 2), .int .i64 ((moveV x y z) 3), .int .i64 ((moveV x y z) 4), .int .i64 ((moveV x y z) 5), .int .i64 ((moveV x y z) 6), .int .i64 ((moveV x y z) 7), .int .i64 ((moveV x y z) 8), .int .i64 ((moveV x y z) 9), .int .i64 ((moveV x y z) 10), .int .i64 ((moveV x y z) 11)])).run Try.prog w = .ok (.bool true) w := fun w => by rw [meq_run]; simp
  have q3 : ∀ w, (binOp .eql 49 (.agg #[.int .i64 ((diagV x y z) 0), .int .i64 ((diagV x y z) 1), .int .i64 ((diagV x y z) 2), .int .i64 ((diagV x y z) 3), .int .i64 ((diagV x y z) 4), .int .i64 ((diagV x y z) 5), .int .i64 ((diagV x y z) 6), .int .i64 ((diagV x y z) 7), .int .i64 ((diagV x y z) 8), .int .i64 ((diagV x y z) 9), .int .i64 ((diagV x y z) 10), .int .i64 ((diagV x y z) 11)]) (.agg #[.int .i64 ((diagV x y z) 0), .int .i64 ((diagV x y z) 1), .int .i64 ((diagV x y z) 2), .int .i64 ((diagV x y z) 3), .int .i64 ((diagV x y z) 4), .int .i64 ((diagV x y z) 5), .int .i64 ((diagV x y z) 6), .int .i64 ((diagV x y z) 7), .int .i64 ((diagV x y z) 8), .int .i64 ((diagV x y z) 9), .int .i64 ((diagV x y z) 10), .int .i64 ((diagV x y z) 11)])).run Try.prog w = .ok (.bool true) w := fun w => by rw [meq_run]; simp
  have q4 : ∀ w, (binOp .eql 49 (.agg #[.int .i64 ((turnV ax) 0), .int .i64 ((turnV ax) 1), .int .i64 ((turnV ax) 2), .int .i64 ((turnV ax) 3), .int .i64 ((turnV ax) 4), .int .i64 ((turnV ax) 5), .int .i64 ((turnV ax) 6), .int .i64 ((turnV ax) 7), .int .i64 ((turnV ax) 8), .int .i64 ((turnV ax) 9), .int .i64 ((turnV ax) 10), .int .i64 ((turnV ax) 11)]) (.agg #[.int .i64 ((turnV ax) 0), .int .i64 ((turnV ax) 1), .int .i64 ((turnV ax) 2), .int .i64 ((turnV ax) 3), .int .i64 ((turnV ax) 4), .int .i64 ((turnV ax) 5), .int .i64 ((turnV ax) 6), .int .i64 ((turnV ax) 7), .int .i64 ((turnV ax) 8), .int .i64 ((turnV ax) 9), .int .i64 ((turnV ax) 10), .int .i64 ((turnV ax) 11)])).run Try.prog w = .ok (.bool true) w := fun w => by rw [meq_run]; simp
  obtain ⟨hf, hg⟩ := four_any ax
  have q5 : ∀ w, (binOp .eql 49 (.agg #[.int .i64 ((mulMR (fun _ => turnV ax) 4) 0), .int .i64 ((mulMR (fun _ => turnV ax) 4) 1), .int .i64 ((mulMR (fun _ => turnV ax) 4) 2), .int .i64 ((mulMR (fun _ => turnV ax) 4) 3), .int .i64 ((mulMR (fun _ => turnV ax) 4) 4), .int .i64 ((mulMR (fun _ => turnV ax) 4) 5), .int .i64 ((mulMR (fun _ => turnV ax) 4) 6), .int .i64 ((mulMR (fun _ => turnV ax) 4) 7), .int .i64 ((mulMR (fun _ => turnV ax) 4) 8), .int .i64 ((mulMR (fun _ => turnV ax) 4) 9), .int .i64 ((mulMR (fun _ => turnV ax) 4) 10), .int .i64 ((mulMR (fun _ => turnV ax) 4) 11)]) (.agg #[.int .i64 ((diagV 65536 65536 65536) 0), .int .i64 ((diagV 65536 65536 65536) 1), .int .i64 ((diagV 65536 65536 65536) 2), .int .i64 ((diagV 65536 65536 65536) 3), .int .i64 ((diagV 65536 65536 65536) 4), .int .i64 ((diagV 65536 65536 65536) 5), .int .i64 ((diagV 65536 65536 65536) 6), .int .i64 ((diagV 65536 65536 65536) 7), .int .i64 ((diagV 65536 65536 65536) 8), .int .i64 ((diagV 65536 65536 65536) 9), .int .i64 ((diagV 65536 65536 65536) 10), .int .i64 ((diagV 65536 65536 65536) 11)])).run Try.prog w = .ok (.bool true) w := fun w => by
    rw [meq_run, hg 0 (by decide), hg 1 (by decide), hg 2 (by decide), hg 3 (by decide), hg 4 (by decide), hg 5 (by decide), hg 6 (by decide), hg 7 (by decide), hg 8 (by decide), hg 9 (by decide), hg 10 (by decide), hg 11 (by decide)]; simp
  have HF := Lib.hid hf
  clear hf hg
  have hb : RowZ (w.alloc (.cells #[.int .i64 x, .int .i64 y, .int .i64 z] 24)) w.heap.size 24 3 (s3 x y z) := row3 (v := s3 x y z) (Lies.new _ _ _ _ rfl)
  have HB := Lib.hid hb; clear hb
  go_enter Try.func7, Try.ntmps7
  go_wp2_with (first
    | (go_at_call 37; (with_reducible refine (mturn_any _ _).mono ?_); rintro e w1 ⟨rfl, hx1⟩)
    | (go_at_call 32; (with_reducible refine (mmul_lit4 _ _ _ _ (by simp)).mono ?_); rintro e w2 ⟨rfl, hx2⟩; rw [HF.out]))
  have hxa : Ext (w1.alloc (.cells #[.int .i64 ((turnV ax) 0), .int .i64 ((turnV ax) 1), .int .i64 ((turnV ax) 2), .int .i64 ((turnV ax) 3), .int .i64 ((turnV ax) 4), .int .i64 ((turnV ax) 5), .int .i64 ((turnV ax) 6), .int .i64 ((turnV ax) 7), .int .i64 ((turnV ax) 8), .int .i64 ((turnV ax) 9), .int .i64 ((turnV ax) 10), .int .i64 ((turnV ax) 11)] 49)) w2 := ((Ext.refl _).alloc _).trans hx2
  have ht : RowZ w2 w1.heap.size 49 12 (turnV ax) := (row12 (Lies.new w1 _ _ _ rfl)).ext hxa
  have hp : RowZ (w2.alloc (.cells #[.int .i64 ((mulMR (fun _ => turnV ax) 4) 0), .int .i64 ((mulMR (fun _ => turnV ax) 4) 1), .int .i64 ((mulMR (fun _ => turnV ax) 4) 2), .int .i64 ((mulMR (fun _ => turnV ax) 4) 3), .int .i64 ((mulMR (fun _ => turnV ax) 4) 4), .int .i64 ((mulMR (fun _ => turnV ax) 4) 5), .int .i64 ((mulMR (fun _ => turnV ax) 4) 6), .int .i64 ((mulMR (fun _ => turnV ax) 4) 7), .int .i64 ((mulMR (fun _ => turnV ax) 4) 8), .int .i64 ((mulMR (fun _ => turnV ax) 4) 9), .int .i64 ((mulMR (fun _ => turnV ax) 4) 10), .int .i64 ((mulMR (fun _ => turnV ax) 4) 11)] 49)) w2.heap.size 49 12 (mulMR (fun _ => turnV ax) 4) := row12 (Lies.new w2 _ _ _ rfl)
  have hx5 : Ext w (w2.alloc (.cells #[.int .i64 ((mulMR (fun _ => turnV ax) 4) 0), .int .i64 ((mulMR (fun _ => turnV ax) 4) 1), .int .i64 ((mulMR (fun _ => turnV ax) 4) 2), .int .i64 ((mulMR (fun _ => turnV ax) 4) 3), .int .i64 ((mulMR (fun _ => turnV ax) 4) 4), .int .i64 ((mulMR (fun _ => turnV ax) 4) 5), .int .i64 ((mulMR (fun _ => turnV ax) 4) 6), .int .i64 ((mulMR (fun _ => turnV ax) 4) 7), .int .i64 ((mulMR (fun _ => turnV ax) 4) 8), .int .i64 ((mulMR (fun _ => turnV ax) 4) 9), .int .i64 ((mulMR (fun _ => turnV ax) 4) 10), .int .i64 ((mulMR (fun _ => turnV ax) 4) 11)] 49)) := ((((Ext.refl w).alloc _).trans hx1).trans (((Ext.refl w1).alloc _).trans hxa)).alloc _
  have hx6 : Ext (w.alloc (.cells #[.int .i64 x, .int .i64 y, .int .i64 z] 24)) (w2.alloc (.cells #[.int .i64 ((mulMR (fun _ => turnV ax) 4) 0), .int .i64 ((mulMR (fun _ => turnV ax) 4) 1), .int .i64 ((mulMR (fun _ => turnV ax) 4) 2), .int .i64 ((mulMR (fun _ => turnV ax) 4) 3), .int .i64 ((mulMR (fun _ => turnV ax) 4) 4), .int .i64 ((mulMR (fun _ => turnV ax) 4) 5), .int .i64 ((mulMR (fun _ => turnV ax) 4) 6), .int .i64 ((mulMR (fun _ => turnV ax) 4) 7), .int .i64 ((mulMR (fun _ => turnV ax) 4) 8), .int .i64 ((mulMR (fun _ => turnV ax) 4) 9), .int .i64 ((mulMR (fun _ => turnV ax) 4) 10), .int .i64 ((mulMR (fun _ => turnV ax) 4) 11)] 49)) := (hx1.trans (((Ext.refl w1).alloc _).trans hxa)).alloc _
  have ht2 := ht.ext ((Ext.refl w2).alloc (.cells #[.int .i64 ((mulMR (fun _ => turnV ax) 4) 0), .int .i64 ((mulMR (fun _ => turnV ax) 4) 1), .int .i64 ((mulMR (fun _ => turnV ax) 4) 2), .int .i64 ((mulMR (fun _ => turnV ax) 4) 3), .int .i64 ((mulMR (fun _ => turnV ax) 4) 4), .int .i64 ((mulMR (fun _ => turnV ax) 4) 5), .int .i64 ((mulMR (fun _ => turnV ax) 4) 6), .int .i64 ((mulMR (fun _ => turnV ax) 4) 7), .int .i64 ((mulMR (fun _ => turnV ax) 4) 8), .int .i64 ((mulMR (fun _ => turnV ax) 4) 9), .int .i64 ((mulMR (fun _ => turnV ax) 4) 10), .int .i64 ((mulMR (fun _ => turnV ax) 4) 11)] 49))
  have HT := Lib.hid ht2; have HP := Lib.hid hp; have HX5 := Lib.hid hx5
  have HB2 := Lib.hid (HB.out.ext hx6)
  clear ht hp hx5 hx6 ht2 hxa hx1 hx2 HB
  obtain ⟨b5, hb5⟩ : ∃ b5, w1.heap.size = b5 := ⟨_, rfl⟩
  obtain ⟨b6, hb6⟩ : ∃ b6, w2.heap.size = b6 := ⟨_, rfl⟩
  rw [hb5] at HT ⊢
  rw [hb6] at HP ⊢
  clear hb5 hb6
  generalize (w2.alloc (.cells #[.int .i64 ((mulMR (fun _ => turnV ax) 4) 0), .int .i64 ((mulMR (fun _ => turnV ax) 4) 1), .int .i64 ((mulMR (fun _ => turnV ax) 4) 2), .int .i64 ((mulMR (fun _ => turnV ax) 4) 3), .int .i64 ((mulMR (fun _ => turnV ax) 4) 4), .int .i64 ((mulMR (fun _ => turnV ax) 4) 5), .int .i64 ((mulMR (fun _ => turnV ax) 4) 6), .int .i64 ((mulMR (fun _ => turnV ax) 4) 7), .int .i64 ((mulMR (fun _ => turnV ax) 4) 8), .int .i64 ((mulMR (fun _ => turnV ax) 4) 9), .int .i64 ((mulMR (fun _ => turnV ax) 4) 10), .int .i64 ((mulMR (fun _ => turnV ax) 4) 11)] 49)) = ws at *
  have hv0 : ∀ W', Ext ws W' → W'.cell? ⟨w.heap.size, 0, none⟩ = some (.int .i64 x) := fun W' h => h.cell (HB2.out.at_ 0 (by decide)).1
  have hv1 : ∀ W', Ext ws W' → W'.cell? ⟨w.heap.size, 1, none⟩ = some (.int .i64 y) := fun W' h => h.cell (HB2.out.at_ 1 (by decide)).1
  have hv2 : ∀ W', Ext ws W' → W'.cell? ⟨w.heap.size, 2, none⟩ = some (.int .i64 z) := fun W' h => h.cell (HB2.out.at_ 2 (by decide)).1
  have hr5 : ∀ W', Ext ws W' → ∀ j, j < 12 → W'.cell? ⟨b5, j, none⟩ = some (.int .i64 (turnV ax j)) := fun W' h j hj => h.cell (HT.out.at_ j hj).1
  have hr6 : ∀ W', Ext ws W' → ∀ j, j < 12 → W'.cell? ⟨b6, j, none⟩ = some (.int .i64 (mulMR (fun _ => turnV ax) 4 j)) := fun W' h j hj => h.cell (HP.out.at_ j hj).1
  have hrr : Ext ws ws := Ext.refl _
  refine wp_region_held_drew (S := (fun w' => Ext ws w')) (by kernel_rfl) (by exact (Ext.refl _).drew) (fun hHeld => ?_)
  refine wpAnyH_ready (rs := [0]) (by kernel_rfl) (by simp) ?_
  refine AllReadyH.cons (o := { dst := some 19, op := Op.call { callee := Callee.value (Operand.func 30), args := #[], argTypes := #[] }, type := 4, pos := "law.go:43", after := #[], guard := none }) rfl (fun K hK => ?_) AllReadyH.nil
  go_simp
  (with_reducible refine (alive03_any _).mono ?_); rintro e v1 ⟨rfl, hy1⟩; go_simp
  refine hK.out _ _ ?_ (fun hHeld => ?_)
  · (repeat (first | exact Ext.refl _ | assumption | (with_reducible refine Ext.alloc ?_ _) | (with_reducible refine Ext.drew ?_) | (with_reducible refine Ext.drewN ?_ _) | (refine Ext.trans ?_ (by assumption))))
  clear hK K
  try simp only [Act.put, List.setIfInBounds_toArray, List.set_cons_zero, List.set_cons_succ]
  refine wpAnyH_take (i := 1) (oi := { dst := some 20, op := Op.move (Operand.tmp 19), type := 4, pos := "law.go:43", after := #[{ on := 0, ground := Ground.data }, { on := 0, ground := Ground.chain }], guard := none }) (v := ?_) rfl (by kernel_rfl) (by kernel_rfl) (by kernel_rfl) (fun _ _ _ h => h) (Or.inl ⟨by rfl, ?_⟩) (by assumption) ?_
  rotate_left
  · (intro w' hSw; go_simp; (try rw [if_pos (by omega)]); try with_reducible rfl)
  try simp only [Act.put, List.setIfInBounds_toArray, List.set_cons_zero, List.set_cons_succ]
  refine wpAnyH_ready (rs := [2]) (by kernel_rfl) (by simp) ?_
  refine AllReadyH.cons (o := { dst := some 21, op := Op.call { callee := Callee.value (Operand.func 38), args := #[], argTypes := #[] }, type := 49, pos := "law.go:43", after := #[{ on := 1, ground := Ground.chain }, { on := 1, ground := Ground.guard }], guard := some (1, true) }) rfl (fun K hK => ?_) AllReadyH.nil
  go_simp
  (with_reducible refine (msame_any _).mono ?_); rintro e v2 ⟨rfl, hy2⟩; go_simp
  refine hK.out _ _ ?_ (fun hHeld => ?_)
  · (repeat (first | exact Ext.refl _ | assumption | (with_reducible refine Ext.alloc ?_ _) | (with_reducible refine Ext.drew ?_) | (with_reducible refine Ext.drewN ?_ _) | (refine Ext.trans ?_ (by assumption))))
  clear hK K
  try simp only [Act.put, List.setIfInBounds_toArray, List.set_cons_zero, List.set_cons_succ]
  refine wpAnyH_ready (rs := [3]) (by kernel_rfl) (by simp) ?_
  refine AllReadyH.cons (o := { dst := some 22, op := Op.call { callee := Callee.value (Operand.func 39), args := #[], argTypes := #[] }, type := 49, pos := "law.go:43", after := #[{ on := 2, ground := Ground.chain }, { on := 1, ground := Ground.guard }], guard := some (1, true) }) rfl (fun K hK => ?_) AllReadyH.nil
  go_simp
  (with_reducible refine (rmsame_any _).mono ?_); rintro e v3 ⟨rfl, hy3⟩; go_simp
  refine hK.out _ _ ?_ (fun hHeld => ?_)
  · (repeat (first | exact Ext.refl _ | assumption | (with_reducible refine Ext.alloc ?_ _) | (with_reducible refine Ext.drew ?_) | (with_reducible refine Ext.drewN ?_ _) | (refine Ext.trans ?_ (by assumption))))
  clear hK K
  try simp only [Act.put, List.setIfInBounds_toArray, List.set_cons_zero, List.set_cons_succ]
  refine wpAnyH_take (i := 4) (oi := { dst := some 23, op := Op.binOp BinOp.eql 49 (Operand.tmp 21) (Operand.tmp 22) 49, type := 4, pos := "law.go:43", after := #[{ on := 2, ground := Ground.data }, { on := 3, ground := Ground.data }, { on := 1, ground := Ground.guard }], guard := some (1, true) }) (v := ?_) rfl (by kernel_rfl) (by kernel_rfl) (by kernel_rfl) (fun _ _ _ h => h) (Or.inl ⟨by rfl, ?_⟩) (by assumption) ?_
  rotate_left
  · (intro w' hSw; go_simp; (try rw [if_pos (by omega)]); try with_reducible rfl)
  try simp only [Act.put, List.setIfInBounds_toArray, List.set_cons_zero, List.set_cons_succ]
  refine wpAnyH_take (i := 5) (oi := { dst := some 24, op := Op.pick (Operand.tmp 20) (Operand.tmp 23) (Operand.const (Value.bool false)), type := 4, pos := "law.go:43", after := #[{ on := 1, ground := Ground.data }, { on := 4, ground := Ground.data }], guard := none }) (v := ?_) rfl (by kernel_rfl) (by kernel_rfl) (by kernel_rfl) (fun _ _ _ h => h) (Or.inl ⟨by rfl, ?_⟩) (by assumption) ?_
  rotate_left
  · (intro w' hSw; go_simp; (try rw [if_pos (by omega)]); try with_reducible rfl)
  try simp only [Act.put, List.setIfInBounds_toArray, List.set_cons_zero, List.set_cons_succ]
  refine wpAnyH_take (i := 6) (oi := { dst := some 25, op := Op.move (Operand.tmp 24), type := 4, pos := "law.go:43", after := #[{ on := 5, ground := Ground.data }, { on := 3, ground := Ground.chain }], guard := none }) (v := ?_) rfl (by kernel_rfl) (by kernel_rfl) (by kernel_rfl) (fun _ _ _ h => h) (Or.inl ⟨by rfl, ?_⟩) (by assumption) ?_
  rotate_left
  · (intro w' hSw; go_simp; (try rw [if_pos (by omega)]); try with_reducible rfl)
  try simp only [Act.put, List.setIfInBounds_toArray, List.set_cons_zero, List.set_cons_succ]
  refine wpAnyH_take (i := 7) (oi := { dst := some 26, op := Op.load 24 (Operand.tmp 2), type := 24, pos := "law.go:43", after := #[{ on := 6, ground := Ground.guard }], guard := some (6, true) }) (v := ?_) rfl (by kernel_rfl) (by kernel_rfl) (by kernel_rfl) (fun _ _ _ h => h) (Or.inl ⟨by rfl, ?_⟩) (by assumption) ?_
  rotate_left
  · (intro w' hSw; go_simp; (try rw [if_pos (by omega)]); try with_reducible rfl)
  try simp only [Act.put, List.setIfInBounds_toArray, List.set_cons_zero, List.set_cons_succ]
  refine wpAnyH_take (i := 9) (oi := { dst := some 28, op := Op.load 24 (Operand.tmp 2), type := 24, pos := "law.go:43", after := #[{ on := 6, ground := Ground.guard }], guard := some (6, true) }) (v := ?_) rfl (by kernel_rfl) (by kernel_rfl) (by kernel_rfl) (fun _ _ _ h => h) (Or.inl ⟨by rfl, ?_⟩) (by assumption) ?_
  rotate_left
  · (intro w' hSw; go_simp; (try rw [if_pos (by omega)]); try with_reducible rfl)
  try simp only [Act.put, List.setIfInBounds_toArray, List.set_cons_zero, List.set_cons_succ]
  refine wpAnyH_ready (rs := [8]) (by kernel_rfl) (by simp) ?_
  refine AllReadyH.cons (o := { dst := some 27, op := Op.call { callee := Callee.value (Operand.func 40), args := #[Operand.tmp 26], argTypes := #[24] }, type := 49, pos := "law.go:43", after := #[{ on := 7, ground := Ground.data }, { on := 6, ground := Ground.chain }, { on := 6, ground := Ground.guard }], guard := some (6, true) }) rfl (fun K hK => ?_) AllReadyH.nil
  go_simp
  (with_reducible refine (mmove_any _ _ _ _).mono ?_); rintro e v4 ⟨rfl, hy4⟩; go_simp
  refine hK.out _ _ ?_ (fun hHeld => ?_)
  · (repeat (first | exact Ext.refl _ | assumption | (with_reducible refine Ext.alloc ?_ _) | (with_reducible refine Ext.drew ?_) | (with_reducible refine Ext.drewN ?_ _) | (refine Ext.trans ?_ (by assumption))))
  clear hK K
  try simp only [Act.put, List.setIfInBounds_toArray, List.set_cons_zero, List.set_cons_succ]
  refine wpAnyH_ready (rs := [10]) (by kernel_rfl) (by simp) ?_
  refine AllReadyH.cons (o := { dst := some 29, op := Op.call { callee := Callee.value (Operand.func 41), args := #[Operand.tmp 28], argTypes := #[24] }, type := 49, pos := "law.go:43", after := #[{ on := 9, ground := Ground.data }, { on := 8, ground := Ground.chain }, { on := 6, ground := Ground.guard }], guard := some (6, true) }) rfl (fun K hK => ?_) AllReadyH.nil
  go_simp
  (with_reducible refine (rmmove_any _ _ _ _).mono ?_); rintro e v5 ⟨rfl, hy5⟩; go_simp
  refine hK.out _ _ ?_ (fun hHeld => ?_)
  · (repeat (first | exact Ext.refl _ | assumption | (with_reducible refine Ext.alloc ?_ _) | (with_reducible refine Ext.drew ?_) | (with_reducible refine Ext.drewN ?_ _) | (refine Ext.trans ?_ (by assumption))))
  clear hK K
  try simp only [Act.put, List.setIfInBounds_toArray, List.set_cons_zero, List.set_cons_succ]
  refine wpAnyH_take (i := 11) (oi := { dst := some 30, op := Op.binOp BinOp.eql 49 (Operand.tmp 27) (Operand.tmp 29) 49, type := 4, pos := "law.go:43", after := #[{ on := 8, ground := Ground.data }, { on := 10, ground := Ground.data }, { on := 6, ground := Ground.guard }], guard := some (6, true) }) (v := ?_) rfl (by kernel_rfl) (by kernel_rfl) (by kernel_rfl) (fun _ _ _ h => h) (Or.inl ⟨by rfl, ?_⟩) (by assumption) ?_
  rotate_left
  · (intro w' hSw; go_simp; (try rw [if_pos (by omega)]); try with_reducible rfl)
  try simp only [Act.put, List.setIfInBounds_toArray, List.set_cons_zero, List.set_cons_succ]
  refine wpAnyH_take (i := 12) (oi := { dst := some 31, op := Op.pick (Operand.tmp 25) (Operand.tmp 30) (Operand.const (Value.bool false)), type := 4, pos := "law.go:43", after := #[{ on := 6, ground := Ground.data }, { on := 11, ground := Ground.data }], guard := none }) (v := ?_) rfl (by kernel_rfl) (by kernel_rfl) (by kernel_rfl) (fun _ _ _ h => h) (Or.inl ⟨by rfl, ?_⟩) (by assumption) ?_
  rotate_left
  · (intro w' hSw; go_simp; (try rw [if_pos (by omega)]); try with_reducible rfl)
  try simp only [Act.put, List.setIfInBounds_toArray, List.set_cons_zero, List.set_cons_succ]
  refine wpAnyH_take (i := 13) (oi := { dst := some 32, op := Op.move (Operand.tmp 31), type := 4, pos := "law.go:43", after := #[{ on := 12, ground := Ground.data }, { on := 10, ground := Ground.chain }], guard := none }) (v := ?_) rfl (by kernel_rfl) (by kernel_rfl) (by kernel_rfl) (fun _ _ _ h => h) (Or.inl ⟨by rfl, ?_⟩) (by assumption) ?_
  rotate_left
  · (intro w' hSw; go_simp; (try rw [if_pos (by omega)]); try with_reducible rfl)
  try simp only [Act.put, List.setIfInBounds_toArray, List.set_cons_zero, List.set_cons_succ]
  refine wpAnyH_take (i := 14) (oi := { dst := some 33, op := Op.load 24 (Operand.tmp 2), type := 24, pos := "law.go:43", after := #[{ on := 13, ground := Ground.guard }], guard := some (13, true) }) (v := ?_) rfl (by kernel_rfl) (by kernel_rfl) (by kernel_rfl) (fun _ _ _ h => h) (Or.inl ⟨by rfl, ?_⟩) (by assumption) ?_
  rotate_left
  · (intro w' hSw; go_simp; (try rw [if_pos (by omega)]); try with_reducible rfl)
  try simp only [Act.put, List.setIfInBounds_toArray, List.set_cons_zero, List.set_cons_succ]
  refine wpAnyH_take (i := 16) (oi := { dst := some 35, op := Op.load 24 (Operand.tmp 2), type := 24, pos := "law.go:43", after := #[{ on := 13, ground := Ground.guard }], guard := some (13, true) }) (v := ?_) rfl (by kernel_rfl) (by kernel_rfl) (by kernel_rfl) (fun _ _ _ h => h) (Or.inl ⟨by rfl, ?_⟩) (by assumption) ?_
  rotate_left
  · (intro w' hSw; go_simp; (try rw [if_pos (by omega)]); try with_reducible rfl)
  try simp only [Act.put, List.setIfInBounds_toArray, List.set_cons_zero, List.set_cons_succ]
  refine wpAnyH_ready (rs := [15]) (by kernel_rfl) (by simp) ?_
  refine AllReadyH.cons (o := { dst := some 34, op := Op.call { callee := Callee.value (Operand.func 42), args := #[Operand.tmp 33], argTypes := #[24] }, type := 49, pos := "law.go:43", after := #[{ on := 14, ground := Ground.data }, { on := 13, ground := Ground.chain }, { on := 13, ground := Ground.guard }], guard := some (13, true) }) rfl (fun K hK => ?_) AllReadyH.nil
  go_simp
  (with_reducible refine (mscale_any _ _ _ _).mono ?_); rintro e v6 ⟨rfl, hy6⟩; go_simp
  refine hK.out _ _ ?_ (fun hHeld => ?_)
  · (repeat (first | exact Ext.refl _ | assumption | (with_reducible refine Ext.alloc ?_ _) | (with_reducible refine Ext.drew ?_) | (with_reducible refine Ext.drewN ?_ _) | (refine Ext.trans ?_ (by assumption))))
  clear hK K
  try simp only [Act.put, List.setIfInBounds_toArray, List.set_cons_zero, List.set_cons_succ]
  refine wpAnyH_ready (rs := [17]) (by kernel_rfl) (by simp) ?_
  refine AllReadyH.cons (o := { dst := some 36, op := Op.call { callee := Callee.value (Operand.func 43), args := #[Operand.tmp 35], argTypes := #[24] }, type := 49, pos := "law.go:43", after := #[{ on := 16, ground := Ground.data }, { on := 15, ground := Ground.chain }, { on := 13, ground := Ground.guard }], guard := some (13, true) }) rfl (fun K hK => ?_) AllReadyH.nil
  go_simp
  (with_reducible refine (rdiag_any _ _ _ _).mono ?_); rintro e v7 ⟨rfl, hy7⟩; go_simp
  refine hK.out _ _ ?_ (fun hHeld => ?_)
  · (repeat (first | exact Ext.refl _ | assumption | (with_reducible refine Ext.alloc ?_ _) | (with_reducible refine Ext.drew ?_) | (with_reducible refine Ext.drewN ?_ _) | (refine Ext.trans ?_ (by assumption))))
  clear hK K
  try simp only [Act.put, List.setIfInBounds_toArray, List.set_cons_zero, List.set_cons_succ]
  refine wpAnyH_take (i := 18) (oi := { dst := some 37, op := Op.binOp BinOp.eql 49 (Operand.tmp 34) (Operand.tmp 36) 49, type := 4, pos := "law.go:43", after := #[{ on := 15, ground := Ground.data }, { on := 17, ground := Ground.data }, { on := 13, ground := Ground.guard }], guard := some (13, true) }) (v := ?_) rfl (by kernel_rfl) (by kernel_rfl) (by kernel_rfl) (fun _ _ _ h => h) (Or.inl ⟨by rfl, ?_⟩) (by assumption) ?_
  rotate_left
  · (intro w' hSw; go_simp; (try rw [if_pos (by omega)]); try with_reducible rfl)
  try simp only [Act.put, List.setIfInBounds_toArray, List.set_cons_zero, List.set_cons_succ]
  refine wpAnyH_take (i := 19) (oi := { dst := some 38, op := Op.pick (Operand.tmp 32) (Operand.tmp 37) (Operand.const (Value.bool false)), type := 4, pos := "law.go:43", after := #[{ on := 13, ground := Ground.data }, { on := 18, ground := Ground.data }], guard := none }) (v := ?_) rfl (by kernel_rfl) (by kernel_rfl) (by kernel_rfl) (fun _ _ _ h => h) (Or.inl ⟨by rfl, ?_⟩) (by assumption) ?_
  rotate_left
  · (intro w' hSw; go_simp; (try rw [if_pos (by omega)]); try with_reducible rfl)
  try simp only [Act.put, List.setIfInBounds_toArray, List.set_cons_zero, List.set_cons_succ]
  refine wpAnyH_take (i := 20) (oi := { dst := some 39, op := Op.move (Operand.tmp 38), type := 4, pos := "law.go:43", after := #[{ on := 19, ground := Ground.data }, { on := 17, ground := Ground.chain }], guard := none }) (v := ?_) rfl (by kernel_rfl) (by kernel_rfl) (by kernel_rfl) (fun _ _ _ h => h) (Or.inl ⟨by rfl, ?_⟩) (by assumption) ?_
  rotate_left
  · (intro w' hSw; go_simp; (try rw [if_pos (by omega)]); try with_reducible rfl)
  try simp only [Act.put, List.setIfInBounds_toArray, List.set_cons_zero, List.set_cons_succ]
  refine wpAnyH_take (i := 21) (oi := { dst := some 40, op := Op.load 49 (Operand.tmp 5), type := 49, pos := "law.go:43", after := #[{ on := 20, ground := Ground.guard }], guard := some (20, true) }) (v := ?_) rfl (by kernel_rfl) (by kernel_rfl) (by kernel_rfl) (fun _ _ _ h => h) (Or.inl ⟨by rfl, ?_⟩) (by assumption) ?_
  rotate_left
  · (intro w' hSw; go_simp; (try rw [if_pos (by omega)]); try with_reducible rfl)
  try simp only [Act.put, List.setIfInBounds_toArray, List.set_cons_zero, List.set_cons_succ]
  refine wpAnyH_take (i := 22) (oi := { dst := some 41, op := Op.move (Operand.tmp 1), type := 3, pos := "law.go:43", after := #[{ on := 20, ground := Ground.guard }], guard := some (20, true) }) (v := ?_) rfl (by kernel_rfl) (by kernel_rfl) (by kernel_rfl) (fun _ _ _ h => h) (Or.inl ⟨by rfl, ?_⟩) (by assumption) ?_
  rotate_left
  · (intro w' hSw; go_simp; (try rw [if_pos (by omega)]); try with_reducible rfl)
  try simp only [Act.put, List.setIfInBounds_toArray, List.set_cons_zero, List.set_cons_succ]
  refine wpAnyH_ready (rs := [23]) (by kernel_rfl) (by simp) ?_
  refine AllReadyH.cons (o := { dst := some 42, op := Op.call { callee := Callee.value (Operand.func 44), args := #[Operand.tmp 41], argTypes := #[3] }, type := 49, pos := "law.go:43", after := #[{ on := 22, ground := Ground.data }, { on := 20, ground := Ground.chain }, { on := 20, ground := Ground.guard }], guard := some (20, true) }) rfl (fun K hK => ?_) AllReadyH.nil
  go_simp
  (with_reducible refine (rmturn_any _ _).mono ?_); rintro e v8 ⟨rfl, hy8⟩; go_simp
  refine hK.out _ _ ?_ (fun hHeld => ?_)
  · (repeat (first | exact Ext.refl _ | assumption | (with_reducible refine Ext.alloc ?_ _) | (with_reducible refine Ext.drew ?_) | (with_reducible refine Ext.drewN ?_ _) | (refine Ext.trans ?_ (by assumption))))
  clear hK K
  try simp only [Act.put, List.setIfInBounds_toArray, List.set_cons_zero, List.set_cons_succ]
  refine wpAnyH_take (i := 24) (oi := { dst := some 43, op := Op.binOp BinOp.eql 49 (Operand.tmp 40) (Operand.tmp 42) 49, type := 4, pos := "law.go:43", after := #[{ on := 21, ground := Ground.data }, { on := 23, ground := Ground.data }, { on := 20, ground := Ground.guard }], guard := some (20, true) }) (v := ?_) rfl (by kernel_rfl) (by kernel_rfl) (by kernel_rfl) (fun _ _ _ h => h) (Or.inl ⟨by rfl, ?_⟩) (by assumption) ?_
  rotate_left
  · (intro w' hSw; go_simp; (try rw [if_pos (by omega)]); try with_reducible rfl)
  try simp only [Act.put, List.setIfInBounds_toArray, List.set_cons_zero, List.set_cons_succ]
  refine wpAnyH_take (i := 25) (oi := { dst := some 44, op := Op.pick (Operand.tmp 39) (Operand.tmp 43) (Operand.const (Value.bool false)), type := 4, pos := "law.go:43", after := #[{ on := 20, ground := Ground.data }, { on := 24, ground := Ground.data }], guard := none }) (v := ?_) rfl (by kernel_rfl) (by kernel_rfl) (by kernel_rfl) (fun _ _ _ h => h) (Or.inl ⟨by rfl, ?_⟩) (by assumption) ?_
  rotate_left
  · (intro w' hSw; go_simp; (try rw [if_pos (by omega)]); try with_reducible rfl)
  try simp only [Act.put, List.setIfInBounds_toArray, List.set_cons_zero, List.set_cons_succ]
  refine wpAnyH_take (i := 26) (oi := { dst := some 45, op := Op.move (Operand.tmp 44), type := 4, pos := "law.go:43", after := #[{ on := 25, ground := Ground.data }, { on := 23, ground := Ground.chain }], guard := none }) (v := ?_) rfl (by kernel_rfl) (by kernel_rfl) (by kernel_rfl) (fun _ _ _ h => h) (Or.inl ⟨by rfl, ?_⟩) (by assumption) ?_
  rotate_left
  · (intro w' hSw; go_simp; (try rw [if_pos (by omega)]); try with_reducible rfl)
  try simp only [Act.put, List.setIfInBounds_toArray, List.set_cons_zero, List.set_cons_succ]
  refine wpAnyH_take (i := 27) (oi := { dst := some 46, op := Op.move (Operand.tmp 7), type := 25, pos := "law.go:43", after := #[{ on := 26, ground := Ground.guard }], guard := some (26, true) }) (v := ?_) rfl (by kernel_rfl) (by kernel_rfl) (by kernel_rfl) (fun _ _ _ h => h) (Or.inl ⟨by rfl, ?_⟩) (by assumption) ?_
  rotate_left
  · (intro w' hSw; go_simp; (try rw [if_pos (by omega)]); try with_reducible rfl)
  try simp only [Act.put, List.setIfInBounds_toArray, List.set_cons_zero, List.set_cons_succ]
  refine wpAnyH_take (i := 28) (oi := { dst := some 47, op := Op.binOp BinOp.eql 25 (Operand.tmp 46) (Operand.const (Value.int IntKind.i64 0)) 25, type := 4, pos := "law.go:43", after := #[{ on := 27, ground := Ground.data }, { on := 26, ground := Ground.guard }], guard := some (26, true) }) (v := ?_) rfl (by kernel_rfl) (by kernel_rfl) (by kernel_rfl) (fun _ _ _ h => h) (Or.inl ⟨by rfl, ?_⟩) (by assumption) ?_
  rotate_left
  · (intro w' hSw; go_simp; (try rw [if_pos (by omega)]); try with_reducible rfl)
  try simp only [Act.put, List.setIfInBounds_toArray, List.set_cons_zero, List.set_cons_succ]
  refine wpAnyH_take (i := 29) (oi := { dst := some 48, op := Op.pick (Operand.tmp 45) (Operand.tmp 47) (Operand.const (Value.bool false)), type := 4, pos := "law.go:43", after := #[{ on := 26, ground := Ground.data }, { on := 28, ground := Ground.data }], guard := none }) (v := ?_) rfl (by kernel_rfl) (by kernel_rfl) (by kernel_rfl) (fun _ _ _ h => h) (Or.inl ⟨by rfl, ?_⟩) (by assumption) ?_
  rotate_left
  · (intro w' hSw; go_simp; (try rw [if_pos (by omega)]); try with_reducible rfl)
  try simp only [Act.put, List.setIfInBounds_toArray, List.set_cons_zero, List.set_cons_succ]
  refine wpAnyH_take (i := 30) (oi := { dst := some 49, op := Op.move (Operand.tmp 48), type := 4, pos := "law.go:43", after := #[{ on := 29, ground := Ground.data }, { on := 26, ground := Ground.chain }], guard := none }) (v := ?_) rfl (by kernel_rfl) (by kernel_rfl) (by kernel_rfl) (fun _ _ _ h => h) (Or.inl ⟨by rfl, ?_⟩) (by assumption) ?_
  rotate_left
  · (intro w' hSw; go_simp; (try rw [if_pos (by omega)]); try with_reducible rfl)
  try simp only [Act.put, List.setIfInBounds_toArray, List.set_cons_zero, List.set_cons_succ]
  refine wpAnyH_take (i := 31) (oi := { dst := some 50, op := Op.load 49 (Operand.tmp 6), type := 49, pos := "law.go:43", after := #[{ on := 30, ground := Ground.guard }], guard := some (30, true) }) (v := ?_) rfl (by kernel_rfl) (by kernel_rfl) (by kernel_rfl) (fun _ _ _ h => h) (Or.inl ⟨by rfl, ?_⟩) (by assumption) ?_
  rotate_left
  · (intro w' hSw; go_simp; (try rw [if_pos (by omega)]); try with_reducible rfl)
  try simp only [Act.put, List.setIfInBounds_toArray, List.set_cons_zero, List.set_cons_succ]
  refine wpAnyH_ready (rs := [32]) (by kernel_rfl) (by simp) ?_
  refine AllReadyH.cons (o := { dst := some 51, op := Op.call { callee := Callee.value (Operand.func 39), args := #[], argTypes := #[] }, type := 49, pos := "law.go:43", after := #[{ on := 30, ground := Ground.chain }, { on := 30, ground := Ground.guard }], guard := some (30, true) }) rfl (fun K hK => ?_) AllReadyH.nil
  go_simp
  (with_reducible refine (rmsame_any _).mono ?_); rintro e v9 ⟨rfl, hy9⟩; go_simp
  refine hK.out _ _ ?_ (fun hHeld => ?_)
  · (repeat (first | exact Ext.refl _ | assumption | (with_reducible refine Ext.alloc ?_ _) | (with_reducible refine Ext.drew ?_) | (with_reducible refine Ext.drewN ?_ _) | (refine Ext.trans ?_ (by assumption))))
  clear hK K
  try simp only [Act.put, List.setIfInBounds_toArray, List.set_cons_zero, List.set_cons_succ]
  refine wpAnyH_take (i := 33) (oi := { dst := some 52, op := Op.binOp BinOp.eql 49 (Operand.tmp 50) (Operand.tmp 51) 49, type := 4, pos := "law.go:43", after := #[{ on := 31, ground := Ground.data }, { on := 32, ground := Ground.data }, { on := 30, ground := Ground.guard }], guard := some (30, true) }) (v := ?_) rfl (by kernel_rfl) (by kernel_rfl) (by kernel_rfl) (fun _ _ _ h => h) (Or.inl ⟨by rfl, ?_⟩) (by assumption) ?_
  rotate_left
  · (intro w' hSw; go_simp; (try rw [if_pos (by omega)]); try with_reducible rfl)
  try simp only [Act.put, List.setIfInBounds_toArray, List.set_cons_zero, List.set_cons_succ]
  refine wpAnyH_take (i := 34) (oi := { dst := some 53, op := Op.pick (Operand.tmp 49) (Operand.tmp 52) (Operand.const (Value.bool false)), type := 4, pos := "law.go:43", after := #[{ on := 30, ground := Ground.data }, { on := 33, ground := Ground.data }], guard := none }) (v := ?_) rfl (by kernel_rfl) (by kernel_rfl) (by kernel_rfl) (fun _ _ _ h => h) (Or.inl ⟨by rfl, ?_⟩) (by assumption) ?_
  rotate_left
  · (intro w' hSw; go_simp; (try rw [if_pos (by omega)]); try with_reducible rfl)
  try simp only [Act.put, List.setIfInBounds_toArray, List.set_cons_zero, List.set_cons_succ]
  refine wpAnyH_take (i := 35) (oi := { dst := some 4, op := Op.assign (Operand.tmp 53), type := 4, pos := "law.go:43", after := #[{ on := 34, ground := Ground.data }, { on := 32, ground := Ground.chain }, { on := 0, ground := Ground.phase }, { on := 1, ground := Ground.phase }, { on := 2, ground := Ground.phase }, { on := 3, ground := Ground.phase }, { on := 4, ground := Ground.phase }, { on := 5, ground := Ground.phase }, { on := 6, ground := Ground.phase }, { on := 7, ground := Ground.phase }, { on := 8, ground := Ground.phase }, { on := 9, ground := Ground.phase }, { on := 10, ground := Ground.phase }, { on := 11, ground := Ground.phase }, { on := 12, ground := Ground.phase }, { on := 13, ground := Ground.phase }, { on := 14, ground := Ground.phase }, { on := 15, ground := Ground.phase }, { on := 16, ground := Ground.phase }, { on := 17, ground := Ground.phase }, { on := 18, ground := Ground.phase }, { on := 19, ground := Ground.phase }, { on := 20, ground := Ground.phase }, { on := 21, ground := Ground.phase }, { on := 22, ground := Ground.phase }, { on := 23, ground := Ground.phase }, { on := 24, ground := Ground.phase }, { on := 25, ground := Ground.phase }, { on := 26, ground := Ground.phase }, { on := 27, ground := Ground.phase }, { on := 28, ground := Ground.phase }, { on := 29, ground := Ground.phase }, { on := 30, ground := Ground.phase }, { on := 31, ground := Ground.phase }, { on := 32, ground := Ground.phase }, { on := 33, ground := Ground.phase }, { on := 34, ground := Ground.phase }], guard := none }) (v := ?_) rfl (by kernel_rfl) (by kernel_rfl) (by kernel_rfl) (fun _ _ _ h => h) (Or.inl ⟨by rfl, ?_⟩) (by assumption) ?_
  rotate_left
  · (intro w' hSw; go_simp; (try rw [if_pos (by omega)]); try with_reducible rfl)
  try simp only [Act.put, List.setIfInBounds_toArray, List.set_cons_zero, List.set_cons_succ]
  refine wpAnyH_done (by kernel_rfl) ?_ _

  all_goals
    go_wp2
    go_ret
    exact ⟨ret_eq rfl, HX5.out.trans (by assumption)⟩
end Go.Proofs.Ytmgckodihnmjoaa
