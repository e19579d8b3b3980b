/-
  Plain laws of numbers as few bytes: what is written is read; what is read was written so. Conditions: the lists are of bytes.
-/
import Derived.Test.YtkepmkdnmmofmaaLaw20
set_option linter.unusedVariables false
set_option linter.unusedSimpArgs false
namespace Go.Proofs.Ytkepmkdnmmofmaa
open Go.RowKit

theorem nth_cons (x : Int) (xs : List Int) (k : Nat) : nth (x :: xs) (k + 1) = nth xs k := by simp [nth]
theorem nth_zero (x : Int) (xs : List Int) : nth (x :: xs) 0 = x := by simp [nth]
theorem valTo_cons (x : Int) (xs : List Int) (k : Nat) : valTo (x :: xs) (k + 1) = x.toNat % 128 + 128 * valTo xs k := by
  induction k with
  | zero => simp [valTo, nth_zero]
  | succ k ih =>
    rw [valTo, ih, nth_cons]
    simp only [valTo, Nat.pow_succ]
    rw [Nat.mul_add]
    have e : (nth xs k).toNat % 128 * (128 ^ k * 128) = 128 * ((nth xs k).toNat % 128 * 128 ^ k) := by rw [← Nat.mul_assoc, Nat.mul_comm]
    omega
theorem one_shape (n : Nat) : ∀ rest : List Int, (∀ i, i < (oneN n).length - 1 → 128 ≤ nth (oneN n ++ rest) i) ∧ nth (oneN n ++ rest) ((oneN n).length - 1) < 128 ∧ (0 < n → 0 < nth (oneN n ++ rest) ((oneN n).length - 1)) ∧ valTo (oneN n ++ rest) (oneN n).length = n ∧ (1 < (oneN n).length → 0 < n) := by
  induction n using Nat.strongRecOn with
  | ind n ih =>
    intro rest
    by_cases h : n < 128
    · rw [oneN_small h]
      refine ⟨fun i hi => by simp at hi, ?_, fun h0 => ?_, ?_, fun h1 => by simp at h1⟩
      · simp [nth]; omega
      · simp [nth]; omega
      · simp [valTo, nth]; omega
    · rw [oneN_big (by omega)]
      obtain ⟨h1, h2, h3, h4, h5⟩ := ih (n / 128) (by omega) rest
      have hp := oneN_pos (n / 128)
      obtain ⟨k, hk⟩ : ∃ k, (oneN (n / 128)).length = k + 1 := ⟨(oneN (n / 128)).length - 1, by omega⟩
      rw [hk] at h1 h2 h3 h4
      simp only [Nat.add_sub_cancel] at h1 h2 h3
      refine ⟨fun i hi => ?_, ?_, fun _ => ?_, ?_, fun _ => by omega⟩
      · simp only [List.length_cons, hk, Nat.add_sub_cancel] at hi
        cases i with
        | zero => simp [nth]; omega
        | succ i => rw [List.cons_append, nth_cons]; exact h1 i (by omega)
      · simp only [List.length_cons, hk, Nat.add_sub_cancel, List.cons_append, nth_cons]; exact h2
      · simp only [List.length_cons, hk, Nat.add_sub_cancel, List.cons_append, nth_cons]; exact h3 (by omega)
      · simp only [List.length_cons, hk, List.cons_append]
        rw [valTo_cons, h4]
        omega
/-- What is written is read. -/
theorem read_one (n : Nat) (hn : n ≤ 1099511627776) (rest : List Int) : numOk (oneN n ++ rest) = true ∧ numV (oneN n ++ rest) = n ∧ (oneN n ++ rest).drop (cnt (oneN n ++ rest) + 1) = rest := by
  obtain ⟨h1, h2, h3, h4, h5⟩ := one_shape n rest
  have hp := oneN_pos n
  have hl : (oneN n).length - 1 < (oneN n ++ rest).length := by rw [List.length_append]; omega
  have e := cnt_eq h1 hl h2
  have e1 : cnt (oneN n ++ rest) + 1 = (oneN n).length := by omega
  have h6 := oneN_length n 5 (by omega)
  have ho : numOk (oneN n ++ rest) = true := by
    simp only [numOk, Bool.and_eq_true, decide_eq_true_eq, Bool.not_eq_true', Bool.and_eq_false_iff, decide_eq_false_iff_not]
    refine ⟨⟨⟨by omega, by omega⟩, by rw [e1, h4]; exact hn⟩, ?_⟩
    by_cases h7 : 0 < cnt (oneN n ++ rest)
    · refine .inr (fun h8 => ?_)
      have := h3 (h5 (by omega))
      rw [e] at h8; omega
    · exact .inl h7
  refine ⟨ho, ?_, ?_⟩
  · simp [numV, ho, e1, h4]
  · rw [e1]; simp
theorem get_one {y : Int} (hy : okW y = true) (rest : List Int) : getB (oneN y.toNat ++ rest) false y = false ∧ getV (oneN y.toNat ++ rest) false y = y ∧ getR (oneN y.toNat ++ rest) false y = rest := by
  simp only [okW, Bool.and_eq_true, decide_eq_true_eq] at hy
  obtain ⟨h1, h2, h3⟩ := read_one y.toNat (by omega) rest
  have hb : getB (oneN y.toNat ++ rest) false y = false := by simp [getB, h1, h2]; omega
  refine ⟨hb, ?_, ?_⟩
  · simp [getV, hb, h2]; omega
  · simp [getR, hb, h3]
theorem valTo_pos (xs : List Int) (k : Nat) (h : 0 < (nth xs k).toNat % 128) : 0 < valTo xs (k + 1) := by
  have : 0 < (nth xs k).toNat % 128 * 128 ^ k := Nat.mul_pos h (Nat.pow_pos (by decide))
  simp only [valTo]; omega
theorem take_one (k : Nat) : ∀ xs : List Int, Bytes xs → k < xs.length → (∀ i, i < k → 128 ≤ nth xs i) → nth xs k < 128 → ¬ (0 < k ∧ nth xs k = 0) → xs.take (k + 1) = oneN (valTo xs (k + 1)) := by
  induction k with
  | zero =>
    intro xs hb hl _ hs _
    cases xs with
    | nil => simp at hl
    | cons x xs =>
      rw [nth_zero] at hs
      have := hb x (by simp)
      have e : valTo (x :: xs) (0 + 1) = x.toNat := by simp [valTo, nth_zero]; omega
      rw [e, oneN_small (by omega)]
      simp; omega
  | succ k ih =>
    intro xs hb hl hg hs h0
    cases xs with
    | nil => simp at hl
    | cons x xs =>
      rw [nth_cons] at hs h0
      have hx := hb x (by simp)
      have hg0 := hg 0 (by omega)
      rw [nth_zero] at hg0
      have hbx : Bytes xs := fun y hy => hb y (by simp [hy])
      have h1 := ih xs hbx (by simpa using hl) (fun i hi => by have := hg (i + 1) (by omega); rwa [nth_cons] at this) hs (fun h => h0 ⟨by omega, h.2⟩)
      have hpos : 0 < valTo xs (k + 1) := by
        refine valTo_pos xs k ?_
        have := (hbx.nth k).1
        have h2 : nth xs k ≠ 0 := fun e => h0 ⟨by omega, e⟩
        omega
      rw [List.take_succ_cons, h1, valTo_cons, oneN_big (n := x.toNat % 128 + 128 * valTo xs (k + 1)) (by omega)]
      have e1 : (x.toNat % 128 + 128 * valTo xs (k + 1)) % 128 = x.toNat % 128 := by omega
      have e2 : (x.toNat % 128 + 128 * valTo xs (k + 1)) / 128 = valTo xs (k + 1) := by omega
      rw [e1, e2]
      congr 1
      omega
/-- What is read was written so. -/
theorem written {xs : List Int} (hb : Bytes xs) (h : numOk xs = true) : okW (numV xs) = true ∧ xs = oneN (numV xs).toNat ++ xs.drop (cnt xs + 1) := by
  have h1 := h
  simp only [numOk, Bool.and_eq_true, decide_eq_true_eq, Bool.not_eq_true', Bool.and_eq_false_iff, decide_eq_false_iff_not] at h1
  obtain ⟨⟨⟨h2, h3⟩, h4⟩, h5⟩ := h1
  have e : numV xs = (valTo xs (cnt xs + 1) : Int) := by simp [numV, h]
  refine ⟨by rw [e]; simp [okW]; omega, ?_⟩
  have h6 := take_one (cnt xs) xs hb h2 (cnt_mem xs) (cnt_stop xs h2) (fun h => h5.elim (fun k => k h.1) (fun k => k h.2))
  rw [e, Int.toNat_natCast, ← h6, List.take_append_drop]
theorem numV_ok (xs : List Int) (h : numOk xs = true) : okW (numV xs) = true := by
  have e : numV xs = (valTo xs (cnt xs + 1) : Int) := by simp [numV, h]
  simp only [numOk, Bool.and_eq_true, decide_eq_true_eq] at h
  rw [e]; simp [okW]; omega
theorem getV_okW (xs : List Int) (f : Bool) (m : Int) : okW (getV xs f m) = true := by
  unfold getV
  split
  · rfl
  · rename_i h
    refine numV_ok xs ?_
    cases ho : numOk xs
    · simp [getB, ho] at h
    · rfl
/-- The bytes of the numbers from a place on. -/
def encB (y : Int) : List Int := if okW y then oneN y.toNat else []
def encS (ls : List Int) (k : Nat) : List Int := (ls.drop k).flatMap encB
theorem encF_snoc (gs : List Int) (y : Int) : ∀ k, k ≤ gs.length → encF (gs ++ [y]) k = encF gs k ∧ badF (gs ++ [y]) k = badF gs k := by
  intro k
  induction k with
  | zero => intro _; exact ⟨rfl, rfl⟩
  | succ k ih =>
    intro hk
    obtain ⟨h1, h2⟩ := ih (by omega)
    have e : nth (gs ++ [y]) k = nth gs k := by simp [nth, List.getElem?_append_left (show k < gs.length by omega)]
    simp only [encF, badF, h1, h2, e]
    exact ⟨trivial, trivial⟩
theorem enc_snoc (gs : List Int) (y : Int) (hy : okW y = true) : encF (gs ++ [y]) (gs ++ [y]).length = encF gs gs.length ++ oneN y.toNat ∧ badF (gs ++ [y]) (gs ++ [y]).length = badF gs gs.length := by
  obtain ⟨h1, h2⟩ := encF_snoc gs y gs.length (Nat.le_refl _)
  have e : nth (gs ++ [y]) gs.length = y := by simp [nth]
  simp only [List.length_append, List.length_singleton, encF, badF, h1, h2, e, hy]
  simp
theorem encS_step (ls : List Int) (k : Nat) (h : k < ls.length) : encS ls k = encB (nth ls k) ++ encS ls (k + 1) := by
  unfold encS
  rw [List.drop_eq_getElem_cons h, List.flatMap_cons, nth_get _ _ h]
theorem encS_end (ls : List Int) : encS ls ls.length = [] := by simp [encS]
theorem encF_S (ls : List Int) : ∀ k, k ≤ ls.length → encF ls k ++ encS ls k = encS ls 0 := by
  intro k
  induction k with
  | zero => intro _; simp [encF]
  | succ k ih =>
    intro hk
    rw [← ih (by omega), encS_step ls k (by omega)]
    simp [encF, encB]
theorem encF_all (ls : List Int) : encF ls ls.length = encS ls 0 := by
  have := encF_S ls ls.length (Nat.le_refl _)
  rw [encS_end, List.append_nil] at this
  exact this
theorem badF_ok {ls : List Int} {n : Nat} (h : badF ls n = false) (k : Nat) (hk : k < n) : okW (nth ls k) = true := by
  cases ho : okW (nth ls k)
  · have : badF ls (k + 1) = true := by simp [badF, ho]
    rw [badF_mono ls hk this] at h; cases h
  · rfl
theorem encF_bytes (ls : List Int) (k : Nat) : Bytes (encF ls k) := by
  induction k with
  | zero => intro x hx; simp [encF] at hx
  | succ k ih =>
    refine ih.append ?_
    split
    · exact oneN_bytes _
    · intro x hx; simp at hx
/-- A reading step, as writing sees it. -/
theorem get_back {ys : List Int} (hb : Bytes ys) (hf : getB ys false 1099511627776 = false) : ys = oneN (getV ys false 1099511627776).toNat ++ getR ys false 1099511627776 ∧ (getR ys false 1099511627776).length < ys.length := by
  have ho : numOk ys = true := by
    cases ho : numOk ys
    · simp [getB, ho] at hf
    · rfl
  have h1 := written hb ho
  have e1 : getV ys false 1099511627776 = numV ys := by simp [getV, hf]
  have e2 : getR ys false 1099511627776 = ys.drop (cnt ys + 1) := by simp [getR, hf]
  rw [e1, e2]
  refine ⟨h1.2, ?_⟩
  have := numOk_le ho
  rw [List.length_drop]; omega
end Go.Proofs.Ytkepmkdnmmofmaa
