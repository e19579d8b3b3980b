/-
  slices.Clone and slices.Equal of bytes. Conditions: slices that are read lie in memory; they are not too long to be copied.
-/
import Derived.Test.YtkepmkdnmmofmaaSum
set_option linter.unusedVariables false
set_option linter.unusedSimpArgs false
namespace Go.Proofs.Ytkepmkdnmmofmaa
open Go.RowKit

/-- A slice of the call's own comes back. -/
def RetOwn (E : Nat) (q : IntKind) (w : World) (xs : List Int) (e : Ending) (w' : World) : Prop := ∃ v, e = .returned v ∧ Own E q w.heap.size w' v xs ∧ Ext w w'
theorem RdK.empty_of {q : IntKind} {w : World} {xs : List Int} (h : RdK q w none xs) : xs = [] := by
  rcases Nat.eq_zero_or_pos xs.length with h0 | h0
  · exact List.eq_nil_of_length_eq_zero h0
  · obtain ⟨ad, e1, _⟩ := h.2 0 h0; cases e1
theorem Try.info5 : (Try.prog.info? 5).map (fun i => (i.zero, i.size, i.bytes)) = some (some (.int .u8 0), 1, 1) := by kernel_rfl

set_option maxHeartbeats 400000 in
theorem cloneB_any (A : Option Addr) (c : Nat) (xs : List Int) (w : World) (h : RdK .u8 w A xs) (hl : xs.length ≤ 140737488355328) :
    Calls Try.prog 59 #[.slice A xs.length c] w (RetOwn 5 .u8 w xs) := by
  have hnil := fun wx : World => Lib.run_eql_slice_nil (P := Try.prog) wx 33 5 A xs.length c 0 0 Try.underlying33
  have H := Lib.hid h; clear h
  cases A with
  | none =>
    have hx := Lib.hid H.out.empty_of
    go_enter Try.func59, Try.ntmps59
    go_wp2
    go_ret
    exact ⟨_, rfl, by rw [hx.out]; exact Own.nil _ _ _ _, Ext.refl _⟩
  | some ad =>
    go_enter Try.func59, Try.ntmps59
    go_wp2_with (at_builtin; refine app_row (w0 := w) 1 Try.underlying33 Try.info5 (by decide) _ [] xs (some ad) c rfl rfl (Own.made0 _ _ _ _ (Nat.le_refl _) _ rfl) ((Ext.refl _).alloc _) (H.out.ext ((Ext.refl _).alloc _)) (by simp; omega) ?_; intro v1 w1 ho hx)
    go_ret
    exact ⟨_, rfl, ho, hx⟩

/-- The first ones are the same. -/
def SameTo (xs ys : List Int) (k : Nat) : Prop := ∀ i, i < k → nth xs i = nth ys i
theorem sameTo_zero (xs ys : List Int) : SameTo xs ys 0 := fun i hi => by omega
theorem sameTo_succ {xs ys : List Int} {k : Nat} (h : SameTo xs ys k) (hk : nth xs k = nth ys k) : SameTo xs ys (k + 1) := by
  intro i hi
  rcases Nat.lt_or_ge i k with h1 | h1
  · exact h i h1
  · obtain rfl : i = k := by omega
    exact hk
theorem same_all {xs ys : List Int} (hl : xs.length = ys.length) (h : SameTo xs ys xs.length) : xs = ys := by
  apply List.ext_getElem hl
  intro i h1 h2
  have := h i h1
  rwa [nth_get _ _ h1, nth_get _ _ h2] at this
/-- The world is the old one, some orders having been drawn. -/
structure Drawn (w w' : World) : Prop where mk :: (out : ∃ n, w' = w.drewN n)
theorem Drawn.refl (w : World) : Drawn w w := ⟨⟨0, rfl⟩⟩
theorem Drawn.step {w w' : World} (h : Drawn w w') (n : Nat) : Drawn w (w'.drewN n) := by
  obtain ⟨m, rfl⟩ := h
  exact ⟨⟨m + n, World.drewN_drewN ..⟩⟩
theorem Drawn.ext {w w' : World} (h : Drawn w w') : Ext w w' := by
  obtain ⟨n, rfl⟩ := h
  exact (Ext.refl w).drewN n
theorem Drawn.cell {w w' : World} (h : Drawn w w') (a : Addr) : w'.cell? a = w.cell? a := by
  obtain ⟨n, rfl⟩ := h
  simp
def eqL (xs ys : List Int) : Bool := decide (xs = ys)
set_option maxHeartbeats 400000 in
theorem equalB_any (A B : Option Addr) (c d : Nat) (xs ys : List Int) (w : World) (h : RdK .u8 w A xs) (h' : RdK .u8 w B ys) :
    Calls Try.prog 60 #[.slice A xs.length c, .slice B ys.length d] w fun e w' => e = .returned (.bool (eqL xs ys)) ∧ Ext w w' := by
  have H := Lib.hid h; have H' := Lib.hid h'
  obtain ⟨hlen, hr⟩ := h
  obtain ⟨hlen', hr'⟩ := h'
  have HR := Lib.hid hr; have HR' := Lib.hid hr'; clear hr hr'
  by_cases hll : xs.length = ys.length
  · have hlb : ((xs.length : Int) != ys.length) = false := by simp; omega
    have HL := Lib.hid hll
    have hll' : xs.length ≤ ys.length := by omega
    clear hll
    go_enter Try.func60, Try.ntmps60
    go_wp2
    go_loopw [5, 13] (fun _ i wr => ∃ k : Nat, k ≤ xs.length ∧ i = .int .i64 k ∧ SameTo xs ys k ∧ Drawn w wr) (fun _ i _ => xs.length - (intOf i).toNat)
    case atStart => exact ⟨0, by omega, rfl, sameTo_zero _ _, Drawn.refl _⟩
    case round =>
      obtain ⟨k, hk, rfl, hs, hd⟩ := hrel
      by_cases hlt : k < xs.length
      · obtain ⟨ad, rfl, hc⟩ := HR.out k hlt
        obtain ⟨ad', rfl, hc'⟩ := HR'.out k (by omega)
        rw [← hd.cell] at hc hc'
        by_cases hkk : nth xs k = nth ys k
        · have hs1 := sameTo_succ hs hkk
          have hkb : (nth xs k != nth ys k) = false := by simpa using hkk
          clear hkk
          go_wp2
          go_quiet (fail)
          go_wp2
          go_roundw
          case rel => exact ⟨k + 1, by omega, by go_num, hs1, hd.step _⟩
          case measure => simp [intOf]; omega
        · have hkb : (nth xs k != nth ys k) = true := by simpa using hkk
          have hne : Hid (eqL xs ys = false) := by show _ = _; unfold eqL; exact decide_eq_false (fun e => hkk (by rw [e]))
          clear hkk
          go_wp2
          go_quiet (fail)
          go_wp2
          go_ret
          exact ⟨ret_eq (congrArg Value.bool hne.out.symm), (hd.step _).ext⟩
      · obtain rfl : k = xs.length := by omega
        have heq : Hid (eqL xs ys = true) := by show _ = _; unfold eqL; exact decide_eq_true (same_all HL.out hs)
        go_wp2
        go_ret
        exact ⟨ret_eq (congrArg Value.bool heq.out.symm), hd.ext⟩
  · have hne : Hid (eqL xs ys = false) := by show _ = _; unfold eqL; exact decide_eq_false (fun e => hll (by rw [e]))
    go_enter Try.func60, Try.ntmps60
    go_wp2
    go_ret
    exact ⟨ret_eq (congrArg Value.bool hne.out.symm), Ext.refl _⟩
end Go.Proofs.Ytkepmkdnmmofmaa
