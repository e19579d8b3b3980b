/-
  The pool: a new one; two lists compared; the live question. Conditions: none.
-/
import Derived.Test.YtacfcfllbadhcaaPool3
import Derived.BigQuiet
set_option linter.unusedVariables false
set_option linter.unusedSimpArgs false
namespace Go.Proofs.Ytacfcfllbadhcaa
open Go.RowKit

theorem zeros95 : Try.zeroCells95 = (Value.int .i64 0 :: (List.replicate 256 [Value.int .i64 0, Value.bool false]).flatten).toArray := by kernel_rfl
theorem zeros33 : Try.zeroCells33 = (Value.int .i64 0 :: (List.replicate 256 (Value.int .i64 0) ++ List.replicate 256 (Value.bool false))).toArray := by kernel_rfl
theorem pairs_at (a b : Value) (n i : Nat) (hi : i < n) : (List.replicate n [a, b]).flatten[i * 2]? = some a ∧ (List.replicate n [a, b]).flatten[i * 2 + 1]? = some b := by
  induction n generalizing i with
  | zero => omega
  | succ n ih =>
    rw [List.replicate_succ, List.flatten_cons]
    cases i with
    | zero => simp
    | succ i =>
      have := ih i (by omega)
      have e : (i + 1) * 2 = (i * 2) + 1 + 1 := by omega
      rw [e]
      simpa using this
theorem pairs_len (a b : Value) (n : Nat) : (List.replicate n [a, b]).flatten.length = n * 2 := by
  induction n with
  | zero => rfl
  | succ n ih => rw [List.replicate_succ, List.flatten_cons, List.length_append, ih]; simp; omega
theorem pool_new (w : World) (r : Nat) (n : Nat) (hn : n = w.heap.size) : PoolAt (w.alloc (.cells (Try.zeroCells95.setIfInBounds 0 (.int .i64 (r : Int))) 95)) n r g0 l0 := by
  refine ⟨_, Lies.new _ _ _ _ hn, ?_, ?_, fun i hi => ?_⟩
  · rw [Array.size_setIfInBounds, zeros95, List.size_toArray, List.length_cons, pairs_len]
  · rw [Array.getElem?_setIfInBounds, if_pos rfl, if_pos]
    rw [zeros95, List.size_toArray, List.length_cons]; omega
  · have h := pairs_at (.int .i64 0) (.bool false) 256 i hi
    rw [Array.getElem?_setIfInBounds, if_neg (by omega), Array.getElem?_setIfInBounds, if_neg (by omega), zeros95, List.getElem?_toArray, List.getElem?_toArray, Nat.add_comm 1 (i * 2), List.getElem?_cons_succ, List.getElem?_cons_succ]
    exact h
theorem rpool_new (w : World) (r : Nat) (n : Nat) (hn : n = w.heap.size) : RPoolAt (w.alloc (.cells (Try.zeroCells33.setIfInBounds 0 (.int .i64 (r : Int))) 33)) n r g0 l0 := by
  refine ⟨_, Lies.new _ _ _ _ hn, ?_, ?_, fun i hi => ?_⟩
  · rw [Array.size_setIfInBounds, zeros33, List.size_toArray, List.length_cons, List.length_append, List.length_replicate, List.length_replicate]
  · rw [Array.getElem?_setIfInBounds, if_pos rfl, if_pos]
    rw [zeros33, List.size_toArray, List.length_cons]; omega
  · rw [Array.getElem?_setIfInBounds, if_neg (by omega), Array.getElem?_setIfInBounds, if_neg (by omega), zeros33, List.getElem?_toArray, List.getElem?_toArray, Nat.add_comm 1 i, show 257 + i = (256 + i) + 1 by omega, List.getElem?_cons_succ, List.getElem?_cons_succ]
    rw [List.getElem?_append_left (by rw [List.length_replicate]; omega), List.getElem?_append_right (by rw [List.length_replicate]; omega), List.getElem?_replicate, List.getElem?_replicate, if_pos hi, if_pos (by rw [List.length_replicate]; omega)]
    exact ⟨rfl, rfl⟩
set_option maxRecDepth 20000 in
set_option maxHeartbeats 1600000 in
theorem pnew_any (r : Nat) (w : World) (h1 : r ≤ 256) : Calls Try.prog 9 #[.int .i64 (r : Int)] w fun e w' => e = .returned (.tuple #[.pointer (some ⟨w.heap.size, 0, none⟩), .int .i64 0]) ∧ PoolAt w' w.heap.size r g0 l0 ∧ Ext w w' := by
  go_enter Try.func9, Try.ntmps9
  go_wp2
  go_ret2
  exact ⟨rfl, pool_new _ _ _ rfl, (Ext.refl _).alloc _⟩
theorem pnew_bad (r : Int) (w : World) (h1 : r < 0 ∨ 256 < r) : Calls Try.prog 9 #[.int .i64 r] w fun e w' => e = .returned (.tuple #[.pointer none, .int .i64 1]) ∧ w = w' := by
  by_cases h : r < 0
  · go_enter Try.func9, Try.ntmps9
    go_wp2
    go_ret2
    exact ⟨rfl, rfl⟩
  · have h2 : 256 < r := by omega
    clear h1
    go_enter Try.func9, Try.ntmps9
    go_wp2
    go_ret2
    exact ⟨rfl, rfl⟩

/-- The first ones are the same. -/
def SameTo (xs ys : List Int) (k : Nat) : Prop := ∀ i, i < k → nth xs i = nth ys i
theorem sameTo_zero (xs ys : List Int) : SameTo xs ys 0 := fun i hi => by omega
theorem sameTo_succ {xs ys : List Int} {k : Nat} (h : SameTo xs ys k) (hk : nth xs k = nth ys k) : SameTo xs ys (k + 1) := by
  intro i hi
  rcases Nat.lt_or_ge i k with h1 | h1
  · exact h i h1
  · obtain rfl : i = k := by omega
    exact hk
theorem same_all {xs ys : List Int} (hl : xs.length = ys.length) (h : SameTo xs ys xs.length) : xs = ys := by
  apply List.ext_getElem hl
  intro i h1 h2
  have := h i h1
  rwa [nth_get _ _ h1, nth_get _ _ h2] at this
structure Drawn (w w' : World) : Prop where mk :: (out : ∃ n, w' = w.drewN n)
theorem Drawn.refl (w : World) : Drawn w w := ⟨⟨0, rfl⟩⟩
theorem Drawn.step {w w' : World} (h : Drawn w w') (n : Nat) : Drawn w (w'.drewN n) := by
  obtain ⟨m, rfl⟩ := h
  exact ⟨⟨m + n, World.drewN_drewN ..⟩⟩
theorem Drawn.ext {w w' : World} (h : Drawn w w') : Ext w w' := by
  obtain ⟨n, rfl⟩ := h
  exact (Ext.refl w).drewN n
theorem Drawn.cell {w w' : World} (h : Drawn w w') (a : Addr) : w'.cell? a = w.cell? a := by
  obtain ⟨n, rfl⟩ := h
  simp
def eqL (xs ys : List Int) : Bool := decide (xs = ys)
set_option maxHeartbeats 1600000 in
theorem rsame_any (A B : Option Addr) (c d : Nat) (xs ys : List Int) (w : World) (h : RdK .i64 w A xs) (h' : RdK .i64 w B ys) :
    Calls Try.prog 16 #[.slice A xs.length c, .slice B ys.length d] w fun e w' => e = .returned (.bool (eqL xs ys)) ∧ Ext w w' := by
  obtain ⟨hlen, hr⟩ := h
  obtain ⟨hlen', hr'⟩ := h'
  have HR := Lib.hid hr; have HR' := Lib.hid hr'; clear hr hr'
  by_cases hll : xs.length = ys.length
  · have hlb : ((xs.length : Int) != ys.length) = false := by simp; omega
    have HL := Lib.hid hll
    have hll' : xs.length ≤ ys.length := by omega
    clear hll
    go_enter Try.func16, Try.ntmps16
    go_wp2
    go_loopw [5] (fun i wr => ∃ k : Nat, k ≤ xs.length ∧ i = .int .i64 k ∧ SameTo xs ys k ∧ Drawn w wr) (fun i _ => xs.length - (intOf i).toNat)
    case atStart => exact ⟨0, by omega, rfl, sameTo_zero _ _, Drawn.refl _⟩
    case round =>
      obtain ⟨k, hk, rfl, hs, hd⟩ := hrel
      by_cases hlt : k < xs.length
      · obtain ⟨ad, rfl, hc⟩ := HR.out k hlt
        obtain ⟨ad', rfl, hc'⟩ := HR'.out k (by omega)
        rw [← hd.cell] at hc hc'
        by_cases hkk : nth xs k = nth ys k
        · have hs1 := sameTo_succ hs hkk
          have hkb : (nth xs k != nth ys k) = false := by simpa using hkk
          clear hkk
          go_wp2
          go_quiet (fail)
          go_wp2
          go_roundw
          case rel => exact ⟨k + 1, by omega, by go_num, hs1, hd.step _⟩
          case measure => simp [intOf]; omega
        · have hkb : (nth xs k != nth ys k) = true := by simpa using hkk
          have hne : Hid (eqL xs ys = false) := by show _ = _; unfold eqL; exact decide_eq_false (fun e => hkk (by rw [e]))
          clear hkk
          go_wp2
          go_quiet (fail)
          go_wp2
          go_ret
          exact ⟨ret_eq (congrArg Value.bool hne.out.symm), (hd.step _).ext⟩
      · obtain rfl : k = xs.length := by omega
        have heq : Hid (eqL xs ys = true) := by show _ = _; unfold eqL; exact decide_eq_true (same_all HL.out hs)
        go_wp2
        go_ret
        exact ⟨ret_eq (congrArg Value.bool heq.out.symm), hd.ext⟩
  · have hne : Hid (eqL xs ys = false) := by show _ = _; unfold eqL; exact decide_eq_false (fun e => hll (by rw [e]))
    have hlb : ((xs.length : Int) != ys.length) = true := by simp; omega
    clear hll
    go_enter Try.func16, Try.ntmps16
    go_wp2
    go_ret
    exact ⟨ret_eq (congrArg Value.bool hne.out.symm), Ext.refl _⟩
end Go.Proofs.Ytacfcfllbadhcaa
