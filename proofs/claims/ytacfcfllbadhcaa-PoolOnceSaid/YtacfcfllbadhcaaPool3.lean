/-
  The pool: dropping, those that live, of the program and of its reference, walked. Conditions: the pool lies in memory; its generations are not too great.
-/
import Derived.Test.YtacfcfllbadhcaaPool2
import Derived.Deep.RegionHeld3
import Derived.Deep.MidRow
import Derived.Laws.BitsLemmas
set_option linter.unusedVariables false
set_option linter.unusedSimpArgs false
namespace Go.Proofs.Ytacfcfllbadhcaa
open Go.RowKit

theorem wpAnyH_mono' {P : Program} {ops : Array Oper} {Q : Exit → Act → World → Prop} {md : Region.Mode} {S S' : World → Prop} (h : ∀ w, S' w → S w) : ∀ {fuel : Nat} {listed : Array Bool} {a : Act} {w : World}, wpAnyH P md ops Q S' fuel listed a w → wpAnyH P md ops Q S fuel listed a w
  | 0, _, _, _, hh => hh
  | _ + 1, _, _, _, hh => ⟨hh.1, fun i hi => wpOp_mono (fun _ _ h' => ⟨h _ h'.1, wpAnyH_mono' h h'.2⟩) (hh.2 i hi)⟩
/-- What dropping does. -/
def dropG (g : Nat → Nat) (l : Nat → Bool) (id : Int) : Nat → Nat := if liveV g l id then upd g (id % 256).toNat (g (id % 256).toNat + 1) else g
def dropL (g : Nat → Nat) (l : Nat → Bool) (id : Int) : Nat → Bool := if liveV g l id then upd l (id % 256).toNat false else l
theorem live_right {g : Nat → Nat} {l : Nat → Bool} {id : Int} (h : liveV g l id = true) : rightB id = true ∧ 0 ≤ id ∧ id < 16777216 ∧ l (id % 256).toNat = true := by
  simp only [liveV, Bool.and_eq_true] at h
  refine ⟨h.1.1, ?_, ?_, h.1.2⟩ <;> (have := h.1.1; simp [rightB] at this; omega)
set_option maxHeartbeats 1600000 in
theorem pdrop_any (p r : Nat) (g : Nat → Nat) (l : Nat → Bool) (id : Int) (w : World) (h : PoolAt w p r g l) (hg : GenOk r g l) : Calls Try.prog 13 #[.pointer (some ⟨p, 0, none⟩), .int .i64 id] w fun e w' => e = .returned (.bool (liveV g l id)) ∧ PoolAt w' p r (dropG g l id) (dropL g l id) ∧ Chg (fun i => i = p) w w' := by
  have H := Lib.hid h; clear h
  have HG := Lib.hid hg; clear hg
  cases hl : liveV g l id
  · have h1 : Hid (dropG g l id = g ∧ dropL g l id = l) := by show _ ∧ _; simp [dropG, dropL, hl]
    go_enter Try.func13, Try.ntmps13
    go_wp2_with (go_at_call 15; (with_reducible refine (plive_any _ _ _ _ _ _ H.out HG.out).mono ?_); rintro e w' ⟨rfl, rfl⟩)
    go_ret
    exact ⟨ret_eq rfl, by rw [h1.out.1, h1.out.2]; exact H.out, Chg.refl _ _⟩
  · obtain ⟨h1, h2, h3, h4⟩ := live_right hl
    obtain ⟨i, hi, hii⟩ : ∃ i : Nat, i < 256 ∧ id % 256 = (i : Int) := ⟨(id % 256).toNat, by omega, by omega⟩
    have hi2 : (id % 256).toNat = i := by omega
    have hI : Hid (ixV id = (i : Int)) := by show _ = _; simp [ixV, h1, hii]
    have hD : Hid (dropG g l id = upd g i (g i + 1) ∧ dropL g l id = upd l i false) := by show _ ∧ _; simp [dropG, dropL, hl, hi2]
    have hgi := HG.out.all i
    clear hi2 hii h4 h1
    go_enter Try.func13, Try.ntmps13
    go_wp2_with (go_at_call 15; (with_reducible refine (plive_any _ _ _ _ _ _ H.out HG.out).mono ?_); rintro e w' ⟨rfl, rfl⟩)
    refine wp_region_held_drew (S := fun w' => Ext w w') (by kernel_rfl) (by exact (Ext.refl _).drew) (fun hHeld => ?_)
    refine wpAnyH_take (i := 0) (oi := { dst := some 10, op := Op.move (Operand.tmp 0), type := 25, pos := "pool.go:56", after := #[], guard := none }) (v := ?_) rfl (by kernel_rfl) (by kernel_rfl) (by kernel_rfl) (fun _ _ _ h => h) (Or.inl ⟨by rfl, ?_⟩) (by assumption) ?_
    rotate_left
    · (intro w' hSw; go_simp; (try rw [if_pos (by omega)]); try with_reducible rfl)
    try simp only [Act.put, List.setIfInBounds_toArray, List.set_cons_zero, List.set_cons_succ]
    refine wpAnyH_take (i := 1) (oi := { dst := some 11, op := Op.move (Operand.tmp 1), type := 23, pos := "pool.go:56", after := #[], guard := none }) (v := ?_) rfl (by kernel_rfl) (by kernel_rfl) (by kernel_rfl) (fun _ _ _ h => h) (Or.inl ⟨by rfl, ?_⟩) (by assumption) ?_
    rotate_left
    · (intro w' hSw; go_simp; (try rw [if_pos (by omega)]); try with_reducible rfl)
    try simp only [Act.put, List.setIfInBounds_toArray, List.set_cons_zero, List.set_cons_succ]
    refine wpAnyH_take (i := 3) (oi := { dst := some 13, op := Op.nilCheck (Operand.tmp 10), type := 0, pos := "pool.go:56", after := #[{ on := 0, ground := Ground.data }], guard := none }) (v := ?_) rfl (by kernel_rfl) (by kernel_rfl) (by kernel_rfl) (fun _ _ _ h => h) (Or.inl ⟨by rfl, ?_⟩) (by assumption) ?_
    rotate_left
    · (intro w' hSw; go_simp; (try rw [if_pos (by omega)]); try with_reducible rfl)
    try simp only [Act.put, List.setIfInBounds_toArray, List.set_cons_zero, List.set_cons_succ]
    refine wpAnyH_take (i := 4) (oi := { dst := some 14, op := Op.fieldAddr 95 (Operand.tmp 13) 1, type := 0, pos := "pool.go:56", after := #[{ on := 3, ground := Ground.data }], guard := none }) (v := ?_) rfl (by kernel_rfl) (by kernel_rfl) (by kernel_rfl) (fun _ _ _ h => h) (Or.inl ⟨by rfl, ?_⟩) (by assumption) ?_
    rotate_left
    · (intro w' hSw; go_simp; (try rw [if_pos (by omega)]); try with_reducible rfl)
    try simp only [Act.put, List.setIfInBounds_toArray, List.set_cons_zero, List.set_cons_succ]
    refine wpAnyH_ready (rs := [2]) (by kernel_rfl) (by simp) ?_
    refine AllReadyH.cons (o := { dst := some 12, op := Op.call { callee := Callee.value (Operand.func 21), args := #[Operand.tmp 11], argTypes := #[23] }, type := 3, pos := "pool.go:56", after := #[{ on := 1, ground := Ground.data }], guard := none }) rfl (fun K hK => ?_) AllReadyH.nil
    go_simp
    (go_at_call 21; (with_reducible refine (pindex_any _ _).mono ?_); rintro e w1 ⟨rfl, rfl⟩; rw [hI.out])
    refine hK.out _ _ ?_ (fun hHeld => ?_)
    · assumption
    clear hK K
    try simp only [Act.put, List.setIfInBounds_toArray, List.set_cons_zero, List.set_cons_succ]
    refine wpAnyH_take (i := 5) (oi := { dst := some 15, op := Op.indexAddr 93 (Operand.tmp 14) (Operand.tmp 12), type := 0, pos := "pool.go:56", after := #[{ on := 4, ground := Ground.data }, { on := 2, ground := Ground.data }], guard := none }) (v := ?_) rfl (by kernel_rfl) (by kernel_rfl) (by kernel_rfl) (fun _ _ _ h => h) (Or.inl ⟨by rfl, ?_⟩) (by assumption) ?_
    rotate_left
    · (intro w' hSw; go_simp; (try rw [if_pos (by omega)]); try with_reducible rfl)
    try simp only [Act.put, List.setIfInBounds_toArray, List.set_cons_zero, List.set_cons_succ]
    refine wpAnyH_take (i := 6) (oi := { dst := some 5, op := Op.assign (Operand.tmp 15), type := 96, pos := "pool.go:56", after := #[{ on := 5, ground := Ground.data }, { on := 2, ground := Ground.chain }, { on := 0, ground := Ground.phase }, { on := 1, ground := Ground.phase }, { on := 2, ground := Ground.phase }, { on := 3, ground := Ground.phase }, { on := 4, ground := Ground.phase }, { on := 5, ground := Ground.phase }], guard := none }) (v := ?_) rfl (by kernel_rfl) (by kernel_rfl) (by kernel_rfl) (fun _ _ _ h => h) (Or.inl ⟨by rfl, ?_⟩) (by assumption) ?_
    rotate_left
    · (intro w' hSw; go_simp; (try rw [if_pos (by omega)]); try with_reducible rfl)
    try simp only [Act.put, List.setIfInBounds_toArray, List.set_cons_zero, List.set_cons_succ]
    refine wpAnyH_done (by kernel_rfl) ?_ _
    have hp1 := H.out.ext (w' := w.drew) ((Ext.refl _).drew)
    have hx1 : Ext w w.drew := (Ext.refl _).drew
    generalize w.drew = wd at *
    obtain ⟨_, h5, h6⟩ := hp1.at_.2 i hi
    have hp2 := Lib.hid (hp1.setL i hi false)
    obtain ⟨⟨h7, h8⟩, _, _⟩ := hp2.out.at_.2 i hi
    have hp3 := Lib.hid (hp2.out.setG i hi (g i + 1))
    go_wp2
    go_ret
    exact ⟨ret_eq rfl, by rw [hD.out.1, hD.out.2]; exact hp3.out, ((hx1.chg _).trans (chg_one _ _ _ _) (fun _ _ h => h)).trans (chg_one _ _ _ _) (fun _ _ h => h)⟩
theorem pdrop_nil (id : Int) (w : World) : Calls Try.prog 13 #[.pointer none, .int .i64 id] w fun e w' => e = .returned (.bool false) ∧ w = w' := by
  go_enter Try.func13, Try.ntmps13
  go_wp2_with (go_at_call 15; (with_reducible refine (plive_nil _ _).mono ?_); rintro e w' ⟨rfl, rfl⟩)
  go_ret
  exact ⟨ret_eq rfl, rfl⟩
set_option maxHeartbeats 1600000 in
theorem rdrop_any (p r : Nat) (g : Nat → Nat) (l : Nat → Bool) (id : Int) (w : World) (h : RPoolAt w p r g l) (hg : GenOk r g l) : Calls Try.prog 14 #[.pointer (some ⟨p, 0, none⟩), .int .i64 id] w fun e w' => e = .returned (.bool (liveV g l id)) ∧ RPoolAt w' p r (dropG g l id) (dropL g l id) ∧ Chg (fun i => i = p) w w' := by
  have H := Lib.hid h; clear h
  have HG := Lib.hid hg; clear hg
  cases hl : liveV g l id
  · have h1 : Hid (dropG g l id = g ∧ dropL g l id = l) := by show _ ∧ _; simp [dropG, dropL, hl]
    go_enter Try.func14, Try.ntmps14
    go_wp2_with (go_at_call 18; (with_reducible refine (rlive_any _ _ _ _ _ _ H.out HG.out).mono ?_); rintro e w' ⟨rfl, rfl⟩)
    go_ret
    exact ⟨ret_eq rfl, by rw [h1.out.1, h1.out.2]; exact H.out, Chg.refl _ _⟩
  · obtain ⟨h1, h2, h3, h4⟩ := live_right hl
    obtain ⟨i, hi, hii⟩ : ∃ i : Nat, i < 256 ∧ id % 256 = (i : Int) := ⟨(id % 256).toNat, by omega, by omega⟩
    have hi2 : (id % 256).toNat = i := by omega
    have hD : Hid (dropG g l id = upd g i (g i + 1) ∧ dropL g l id = upd l i false) := by show _ ∧ _; simp [dropG, dropL, hl, hi2]
    have hgi := HG.out.all i
    obtain ⟨_, h5, h6⟩ := H.out.at_.2 i hi
    have hp2 := Lib.hid (H.out.setL i hi false)
    have hwr : Hid (IntKind.i64.wrap ((g i : Int) + 1) = ((g i + 1 : Nat) : Int)) := by show _ = _; rw [IntKind.wrap_i64]; omega
    clear hi2 h4 h1
    go_enter Try.func14, Try.ntmps14
    go_wp2_with (go_at_call 18; (with_reducible refine (rlive_any _ _ _ _ _ _ H.out HG.out).mono ?_); rintro e w' ⟨rfl, rfl⟩)
    generalize hw1 : w.setCell ⟨p, 257 + i, none⟩ (.bool false) = w1 at *
    have hc1 : Chg (fun i => i = p) w w1 := by rw [← hw1]; exact chg_one _ _ _ _
    clear hw1
    have hp3 := Lib.hid (hp2.out.ext (w' := w1.drew) ((Ext.refl _).drew))
    obtain ⟨⟨h7, h8⟩, _, _⟩ := hp3.out.at_.2 i hi
    refine wp_region_held_drew (S := fun w' => Chg (fun i => i = p) w1 w') (by kernel_rfl) (by exact ((Ext.refl _).drew).chg _) (fun hHeld => ?_)
    refine wpAnyH_take (i := 0) (oi := { dst := some 18, op := Op.move (Operand.tmp 0), type := 29, pos := "ref.go:43", after := #[], guard := none }) (v := ?_) rfl (by kernel_rfl) (by kernel_rfl) (by kernel_rfl) (fun _ _ _ h => h) (Or.inl ⟨by rfl, ?_⟩) (by assumption) ?_
    rotate_left
    · (intro w' hSw; go_simp; (try rw [if_pos (by omega)]); try with_reducible rfl)
    try simp only [Act.put, List.setIfInBounds_toArray, List.set_cons_zero, List.set_cons_succ]
    refine wpAnyH_take (i := 1) (oi := { dst := some 19, op := Op.move (Operand.tmp 6), type := 3, pos := "ref.go:43", after := #[], guard := none }) (v := ?_) rfl (by kernel_rfl) (by kernel_rfl) (by kernel_rfl) (fun _ _ _ h => h) (Or.inl ⟨by rfl, ?_⟩) (by assumption) ?_
    rotate_left
    · (intro w' hSw; go_simp; (try rw [if_pos (by omega)]); try with_reducible rfl)
    try simp only [Act.put, List.setIfInBounds_toArray, List.set_cons_zero, List.set_cons_succ]
    refine wpAnyH_take (i := 2) (oi := { dst := some 20, op := Op.move (Operand.tmp 0), type := 29, pos := "ref.go:43", after := #[], guard := none }) (v := ?_) rfl (by kernel_rfl) (by kernel_rfl) (by kernel_rfl) (fun _ _ _ h => h) (Or.inl ⟨by rfl, ?_⟩) (by assumption) ?_
    rotate_left
    · (intro w' hSw; go_simp; (try rw [if_pos (by omega)]); try with_reducible rfl)
    try simp only [Act.put, List.setIfInBounds_toArray, List.set_cons_zero, List.set_cons_succ]
    refine wpAnyH_take (i := 3) (oi := { dst := some 21, op := Op.move (Operand.tmp 6), type := 3, pos := "ref.go:43", after := #[], guard := none }) (v := ?_) rfl (by kernel_rfl) (by kernel_rfl) (by kernel_rfl) (fun _ _ _ h => h) (Or.inl ⟨by rfl, ?_⟩) (by assumption) ?_
    rotate_left
    · (intro w' hSw; go_simp; (try rw [if_pos (by omega)]); try with_reducible rfl)
    try simp only [Act.put, List.setIfInBounds_toArray, List.set_cons_zero, List.set_cons_succ]
    refine wpAnyH_take (i := 4) (oi := { dst := some 22, op := Op.nilCheck (Operand.tmp 20), type := 0, pos := "ref.go:43", after := #[{ on := 2, ground := Ground.data }], guard := none }) (v := ?_) rfl (by kernel_rfl) (by kernel_rfl) (by kernel_rfl) (fun _ _ _ h => h) (Or.inl ⟨by rfl, ?_⟩) (by assumption) ?_
    rotate_left
    · (intro w' hSw; go_simp; (try rw [if_pos (by omega)]); try with_reducible rfl)
    try simp only [Act.put, List.setIfInBounds_toArray, List.set_cons_zero, List.set_cons_succ]
    refine wpAnyH_take (i := 5) (oi := { dst := some 23, op := Op.fieldAddr 33 (Operand.tmp 22) 1, type := 0, pos := "ref.go:43", after := #[{ on := 4, ground := Ground.data }], guard := none }) (v := ?_) rfl (by kernel_rfl) (by kernel_rfl) (by kernel_rfl) (fun _ _ _ h => h) (Or.inl ⟨by rfl, ?_⟩) (by assumption) ?_
    rotate_left
    · (intro w' hSw; go_simp; (try rw [if_pos (by omega)]); try with_reducible rfl)
    try simp only [Act.put, List.setIfInBounds_toArray, List.set_cons_zero, List.set_cons_succ]
    refine wpAnyH_take (i := 6) (oi := { dst := some 24, op := Op.indexAddr 30 (Operand.tmp 23) (Operand.tmp 21), type := 0, pos := "ref.go:43", after := #[{ on := 5, ground := Ground.data }, { on := 3, ground := Ground.data }], guard := none }) (v := ?_) rfl (by kernel_rfl) (by kernel_rfl) (by kernel_rfl) (fun _ _ _ h => h) (Or.inl ⟨by rfl, ?_⟩) (by assumption) ?_
    rotate_left
    · (intro w' hSw; go_simp; (try rw [if_pos (by omega)]); try with_reducible rfl)
    try simp only [Act.put, List.setIfInBounds_toArray, List.set_cons_zero, List.set_cons_succ]
    refine wpAnyH_take (i := 9) (oi := { dst := some 27, op := Op.nilCheck (Operand.tmp 18), type := 0, pos := "ref.go:43", after := #[{ on := 0, ground := Ground.data }], guard := none }) (v := ?_) rfl (by kernel_rfl) (by kernel_rfl) (by kernel_rfl) (fun _ _ _ h => h) (Or.inl ⟨by rfl, ?_⟩) (by assumption) ?_
    rotate_left
    · (intro w' hSw; go_simp; (try rw [if_pos (by omega)]); try with_reducible rfl)
    try simp only [Act.put, List.setIfInBounds_toArray, List.set_cons_zero, List.set_cons_succ]
    refine wpAnyH_take (i := 10) (oi := { dst := some 28, op := Op.fieldAddr 33 (Operand.tmp 27) 1, type := 0, pos := "ref.go:43", after := #[{ on := 9, ground := Ground.data }], guard := none }) (v := ?_) rfl (by kernel_rfl) (by kernel_rfl) (by kernel_rfl) (fun _ _ _ h => h) (Or.inl ⟨by rfl, ?_⟩) (by assumption) ?_
    rotate_left
    · (intro w' hSw; go_simp; (try rw [if_pos (by omega)]); try with_reducible rfl)
    try simp only [Act.put, List.setIfInBounds_toArray, List.set_cons_zero, List.set_cons_succ]
    refine wpAnyH_ready (rs := [7]) (by kernel_rfl) (by simp) ?_
    refine AllReadyH.cons (o := { dst := some 25, op := Op.load 3 (Operand.tmp 24), type := 3, pos := "ref.go:43", after := #[{ on := 6, ground := Ground.data }], guard := none }) rfl (fun K hK => ?_) AllReadyH.nil
    go_simp
    refine hK.out _ _ ?_ (fun hHeld => ?_)
    · exact ((Ext.refl _).drew).chg _
    clear hK K
    try simp only [Act.put, List.setIfInBounds_toArray, List.set_cons_zero, List.set_cons_succ]
    refine wpAnyH_take (i := 8) (oi := { dst := some 26, op := Op.binOp BinOp.add 3 (Operand.tmp 25) (Operand.const (Value.int IntKind.i64 1)) 3, type := 3, pos := "ref.go:43", after := #[{ on := 7, ground := Ground.data }], guard := none }) (v := ?_) rfl (by kernel_rfl) (by kernel_rfl) (by kernel_rfl) (fun _ _ _ h => h) (Or.inl ⟨by rfl, ?_⟩) (by assumption) ?_
    rotate_left
    · (intro w' hSw; go_simp; (try rw [if_pos (by omega)]); try with_reducible rfl)
    try simp only [Act.put, List.setIfInBounds_toArray, List.set_cons_zero, List.set_cons_succ]
    refine wpAnyH_take (i := 11) (oi := { dst := some 29, op := Op.indexAddr 30 (Operand.tmp 28) (Operand.tmp 19), type := 0, pos := "ref.go:43", after := #[{ on := 10, ground := Ground.data }, { on := 1, ground := Ground.data }, { on := 0, ground := Ground.phase }, { on := 1, ground := Ground.phase }, { on := 2, ground := Ground.phase }, { on := 3, ground := Ground.phase }, { on := 4, ground := Ground.phase }, { on := 5, ground := Ground.phase }, { on := 6, ground := Ground.phase }, { on := 7, ground := Ground.phase }, { on := 8, ground := Ground.phase }], guard := none }) (v := ?_) rfl (by kernel_rfl) (by kernel_rfl) (by kernel_rfl) (fun _ _ _ h => h) (Or.inl ⟨by rfl, ?_⟩) (by assumption) ?_
    rotate_left
    · (intro w' hSw; go_simp; (try rw [if_pos (by omega)]); try with_reducible rfl)
    try simp only [Act.put, List.setIfInBounds_toArray, List.set_cons_zero, List.set_cons_succ]
    refine wpAnyH_ready (rs := [12]) (by kernel_rfl) (by simp) ?_
    refine AllReadyH.cons (o := { dst := none, op := Op.store 3 (Operand.tmp 29) (Operand.tmp 26), type := 0, pos := "ref.go:43", after := #[{ on := 11, ground := Ground.data }, { on := 8, ground := Ground.data }, { on := 0, ground := Ground.phase }, { on := 1, ground := Ground.phase }, { on := 2, ground := Ground.phase }, { on := 3, ground := Ground.phase }, { on := 4, ground := Ground.phase }, { on := 5, ground := Ground.phase }, { on := 6, ground := Ground.phase }, { on := 7, ground := Ground.phase }, { on := 8, ground := Ground.phase }], guard := none }) rfl (fun K hK => ?_) AllReadyH.nil
    go_simp
    refine hK.out _ _ ?_ (fun hHeld => ?_)
    · exact (((Ext.refl _).drew).chg _).trans (chg_one _ _ _ _) (fun _ _ h => h)
    clear hK K
    try simp only [Act.put, List.setIfInBounds_toArray, List.set_cons_zero, List.set_cons_succ]
    refine wpAnyH_done (by kernel_rfl) ?_ _
    have hp4 := Lib.hid (hp3.out.setG i hi (g i + 1))
    go_wp2
    go_ret
    exact ⟨ret_eq rfl, by rw [hD.out.1, hD.out.2, hwr.out]; exact hp4.out, hc1.trans ((((Ext.refl _).drew).chg _).trans (chg_one _ _ _ _) (fun _ _ h => h)) (fun _ _ h => h)⟩

theorem Try.info23 : (Try.prog.info? 23).map (fun i => (i.zero, i.size, i.bytes)) = some (some (.int .i64 0), 1, 8) := by kernel_rfl
def allP (g : Nat → Nat) (l : Nat → Bool) : List Int := allL g l 256
theorem allL_len (g : Nat → Nat) (l : Nat → Bool) (k : Nat) : (allL g l k).length ≤ k := by
  induction k with
  | zero => simp [allL]
  | succ k ih => simp only [allL, List.length_append]; split <;> simp <;> omega
set_option maxRecDepth 20000 in
set_option maxHeartbeats 1600000 in
theorem rall_any (p r : Nat) (g : Nat → Nat) (l : Nat → Bool) (w : World) (h : RPoolAt w p r g l) (hg : GenOk r g l) : Calls Try.prog 12 #[.pointer (some ⟨p, 0, none⟩)] w fun e w' => ∃ v, e = .returned v ∧ Own 23 .i64 w.heap.size w' v (allP g l) ∧ Ext w w' := by
  have H := Lib.hid h; clear h
  have HG := Lib.hid hg; clear hg
  go_enter Try.func12, Try.ntmps12
  go_wp2
  go_loopw [3, 4] (fun o j wr => ∃ k : Nat, k ≤ 256 ∧ j = .int .i64 k ∧ Own 23 .i64 w.heap.size wr o (allL g l k) ∧ Ext w wr) (fun _ j _ => 256 - (intOf j).toNat)
  case atStart => exact ⟨0, by omega, rfl, Own.nil _ _ _ _, Ext.refl _⟩
  case round =>
    obtain ⟨k, hk, rfl, ho1, hx1⟩ := hrel
    by_cases hlt : k < 256
    · obtain ⟨⟨h1, _⟩, h2, _⟩ := (H.out.ext hx1).at_.2 k hlt
      have hgk := HG.out.all k
      have hA : Hid (allL g l (k + 1) = allL g l k ++ (if l k then [nameI g k] else [])) := rfl
      cases hl : l k
      · rw [hl] at h2 hA
        go_wp2
        go_roundw
        case rel => exact ⟨k + 1, by omega, by go_num, by rw [hA.out]; simpa using ho1, hx1⟩
        case measure => simp [intOf]; omega
      · rw [hl] at h2 hA
        have hln : Hid (((allL g l k).length + 1) * 8 ≤ 140737488355328) := by have := allL_len g l k; show _ ≤ _; omega
        go_wp2_with (at_builtin; refine app_one (w0 := w) 8 Try.underlying36 Try.info23 (by decide) _ _ rfl rfl rfl ho1 hx1 hln.out ?_; intro v2 w2 ho2 hx2)
        go_roundw
        case rel => exact ⟨k + 1, by omega, by go_num, by rw [hA.out]; exact ho2, hx2⟩
        case measure => simp [intOf]; omega
    · obtain rfl : k = 256 := by omega
      have ho2 : Own 23 .i64 w.heap.size wr _ (allP g l) := ho1
      clear ho1
      go_wp2
      go_ret
      exact ⟨_, rfl, ho2, hx1⟩
theorem pall_nil (w : World) : Calls Try.prog 17 #[.pointer none] w fun e w' => e = .returned (.slice none 0 0) ∧ w = w' := by
  go_enter Try.func17, Try.ntmps17
  go_wp2
  go_ret
  exact ⟨ret_eq rfl, rfl⟩
theorem plen_nil (w : World) : Calls Try.prog 19 #[.pointer none] w fun e w' => e = .returned (.int .i64 0) ∧ w = w' := by
  go_enter Try.func19, Try.ntmps19
  go_wp2_with (go_at_call 17; (with_reducible refine (pall_nil _).mono ?_); rintro e w' ⟨rfl, rfl⟩)
  go_ret
  exact ⟨ret_eq rfl, rfl⟩
set_option maxRecDepth 20000 in
set_option maxHeartbeats 1600000 in
theorem pall_any (p r : Nat) (g : Nat → Nat) (l : Nat → Bool) (w : World) (h : PoolAt w p r g l) (hg : GenOk r g l) : Calls Try.prog 17 #[.pointer (some ⟨p, 0, none⟩)] w fun e w' => ∃ v, e = .returned v ∧ Own 23 .i64 w.heap.size w' v (allP g l) ∧ Ext w w' := by
  have H := Lib.hid h; clear h
  have HG := Lib.hid hg; clear hg
  obtain ⟨cs, hcs, hsz, h0, hat⟩ := H.out.out
  have hrg := World.rangeAt_of_block hcs.out 1 512
  have hsl : (cs.extract 1 (1 + 512)).size = 512 := by rw [Array.size_extract]; omega
  have hel : ∀ i, i < 256 → (cs.extract 1 (1 + 512))[i * 2]? = some (.int .i64 (g i : Int)) ∧ (cs.extract 1 (1 + 512))[i * 2 + 1]? = some (.bool (l i)) := fun i hi => by
    rw [Array.getElem?_extract, Array.getElem?_extract, if_pos (by omega), if_pos (by omega)]
    exact ⟨(hat i hi).1, by rw [← Nat.add_assoc]; exact (hat i hi).2⟩
  generalize cs.extract 1 (1 + 512) = E at *
  have HR := Lib.hid hrg; clear hrg
  have HE := Lib.hid hel; clear hel
  have HS := Lib.hid hsl; clear hsl
  clear hcs hsz h0 hat
  go_enter Try.func17, Try.ntmps17
  go_wp2_with (refine wpList_load_mid rfl 93 _ rfl p 1 rfl E.toList _ HR.out Try.underlying93 rfl (by rw [Array.length_toList, HS.out]; kernel_rfl) ?_)
  go_loopw [3, 4, 5, 12] (fun o _ _ j wr => ∃ k : Nat, k ≤ 256 ∧ j = .int .i64 k ∧ Own 23 .i64 w.heap.size wr o (allL g l k) ∧ Ext w wr) (fun _ _ _ j _ => 256 - (intOf j).toNat)
  case atStart => exact ⟨0, by omega, rfl, Own.nil _ _ _ _, Ext.refl _⟩
  case round =>
    obtain ⟨k, hk, rfl, ho1, hx1⟩ := hrel
    by_cases hlt : k < 256
    · have hgk := HG.out.all k
      have hA : Hid (allL g l (k + 1) = allL g l k ++ (if l k then [nameI g k] else [])) := rfl
      have hix := fun wx : World => run_index_agg (P := Try.prog) wx 93 92 256 2 _ Try.underlying93 Try.underlying92 rfl (by kernel_rfl) E #[.int .i64 (g k : Int), .bool (l k)] .i64 k hlt rfl (fun j hj => by
        have := HE.out k hlt
        match j, hj with
        | 0, _ => exact this.1
        | 1, _ => exact this.2)
      cases hl : l k
      · rw [hl] at hA hix
        go_wp2
        go_roundw
        case rel => exact ⟨k + 1, by omega, by go_num, by rw [hA.out]; simpa using ho1.ext (by (repeat (first | exact Ext.refl _ | assumption | (with_reducible refine Ext.alloc ?_ _) | (with_reducible refine Ext.drew ?_) | (with_reducible refine Ext.drewN ?_ _) | (refine Ext.trans ?_ (by assumption))))), by (repeat (first | exact Ext.refl _ | assumption | (with_reducible refine Ext.alloc ?_ _) | (with_reducible refine Ext.drew ?_) | (with_reducible refine Ext.drewN ?_ _) | (refine Ext.trans ?_ (by assumption))))⟩
        case measure => simp [intOf]; omega
      · rw [hl] at hA hix
        have hln : Hid (((allL g l k).length + 1) * 8 ≤ 140737488355328) := by have := allL_len g l k; show _ ≤ _; omega
        have hxa := hx1.alloc (.cells #[.int .i64 (g k : Int), .bool true] 92)
        go_wp2_with (first
          | (go_at_call 47; (with_reducible refine (pname_any _ _ _ _ _ _ (H.out.ext hxa) hlt hgk).mono ?_); rintro e w' ⟨rfl, rfl⟩)
          | (at_builtin; refine app_one (w0 := w) 8 Try.underlying36 Try.info23 (by decide) _ _ (by simp) rfl rfl (ho1.ext ((Ext.refl _).alloc _)) hxa hln.out ?_; intro v2 w2 ho2 hx2))
        go_roundw
        case rel => exact ⟨k + 1, by omega, by go_num, by rw [hA.out]; exact ho2, hx2⟩
        case measure => simp [intOf]; omega
    · obtain rfl : k = 256 := by omega
      have ho2 : Own 23 .i64 w.heap.size wr _ (allP g l) := ho1
      clear ho1
      go_wp2
      go_ret
      exact ⟨_, rfl, ho2, hx1⟩
set_option maxHeartbeats 400000 in
theorem plen_any (p r : Nat) (g : Nat → Nat) (l : Nat → Bool) (w : World) (h : PoolAt w p r g l) (hg : GenOk r g l) : Calls Try.prog 19 #[.pointer (some ⟨p, 0, none⟩)] w fun e w' => e = .returned (.int .i64 ((allP g l).length : Int)) ∧ Ext w w' := by
  have H := Lib.hid h; clear h
  have HG := Lib.hid hg; clear hg
  go_enter Try.func19, Try.ntmps19
  go_wp2_with (go_at_call 17; (refine (pall_any _ _ _ _ _ H.out HG.out).mono ?_); rintro e w1 ⟨v1, rfl, ho1, hx1⟩; obtain ⟨A1, c1, rfl, _, _⟩ := ho1.read)
  go_ret
  exact ⟨ret_eq rfl, hx1⟩
/-- A new pool. -/
def g0 (_ : Nat) : Nat := 0
def l0 (_ : Nat) : Bool := false
theorem genOk0 {r : Nat} (h : r ≤ 256) : GenOk r g0 l0 := ⟨h, fun i => by simp [g0], fun i hi => by simp [l0] at hi⟩
/-- Whether one is among some. -/
def hasL (xs : List Int) (id : Int) : Bool := xs.any fun x => decide (x = id)
theorem rhas_any (A : Option Addr) (c : Nat) (xs : List Int) (id : Int) (w : World) (h : RdK .i64 w A xs) : Calls Try.prog 23 #[.slice A xs.length c, .int .i64 id] w fun e w' => e = .returned (.bool (hasL xs id)) ∧ w = w' := by
  obtain ⟨hlen, hr⟩ := h
  have HR := Lib.hid hr; clear hr
  have hin := any_of_idx (fun x => decide (x = id)) xs
  have HI := Lib.hid hin; clear hin
  go_enter Try.func23, Try.ntmps23
  go_wp2
  go_loop [5] (fun j => ∃ k : Nat, k ≤ xs.length ∧ j = .int .i64 k ∧ Before (fun x => decide (x = id)) xs k) (fun j => xs.length - (intOf j).toNat)
  case atStart => exact ⟨0, by omega, rfl, before_zero _ _⟩
  case round =>
    obtain ⟨k, hk, rfl, hb⟩ := hrel
    have HB := Lib.hid hb; clear hb
    by_cases hlt : k < xs.length
    · obtain ⟨ad, rfl, hc⟩ := HR.out k hlt
      cases he : (nth xs k == id)
      · have hb2 := Lib.hid (before_succ HB.out (p := fun x => decide (x = id)) (by simpa using he))
        go_wp2
        go_round
        case rel => exact ⟨k + 1, by omega, by go_num, hb2.out⟩
        case measure => simp [intOf]; omega
      · have hi := Lib.hid (idxOf_hit (fun x => decide (x = id)) xs k hlt HB.out (by simpa using he))
        go_wp2
        go_ret
        refine ⟨ret_eq ?_, rfl⟩
        have h1 := HI.out
        rw [hi.out] at h1
        rw [hasL, ← h1]
        simp
    · obtain rfl : k = xs.length := by omega
      have hi := Lib.hid (idxOf_miss _ _ HB.out)
      go_wp2
      go_ret
      refine ⟨ret_eq ?_, rfl⟩
      have h1 := HI.out
      rw [hi.out] at h1
      rw [hasL, ← h1]
      simp
end Go.Proofs.Ytacfcfllbadhcaa
