/-
  The reader of layer 20, of the program and of its reference. Conditions: slices that are read lie in memory; they are bytes.
-/
import Derived.Test.YtkepmkdnmmofmaaOct2
set_option linter.unusedVariables false
set_option linter.unusedSimpArgs false
namespace Go.Proofs.Ytkepmkdnmmofmaa
open Go.RowKit

/-- A reader at a block. -/
structure Rd2 (T : Nat) (w : World) (p : Nat) (A : Option Addr) (c : Nat) (xs : List Int) (f : Bool) : Prop where
  lies : Lies w p #[.slice A xs.length c, .bool f] T
  row : RdK .u8 w A xs
  ne : ∀ ad, A = some ad → ad.block ≠ p
  cap : xs.length ≤ c
  bytes : Bytes xs
def getB (xs : List Int) (f : Bool) (m : Int) : Bool := f || !numOk xs || decide (m < numV xs)
def getV (xs : List Int) (f : Bool) (m : Int) : Int := if getB xs f m then 0 else numV xs
def getR (xs : List Int) (f : Bool) (m : Int) : List Int := if getB xs f m then xs else xs.drop (cnt xs + 1)
def SameBlk (A A' : Option Addr) : Prop := ∀ ad, A' = some ad → ∃ ad0, A = some ad0 ∧ ad.block = ad0.block
/-- Behind a reading. -/
structure Got (T p : Nat) (A : Option Addr) (xs : List Int) (f : Bool) (m : Int) (w w' : World) : Prop where mk :: (out : ∃ A' c', Rd2 T w' p A' c' (getR xs f m) (getB xs f m) ∧ Chg (fun i => i = p) w w' ∧ SameBlk A A')
theorem SameBlk.refl (A : Option Addr) : SameBlk A A := fun ad h => ⟨ad, h, rfl⟩
theorem SameBlk.trans {A B C : Option Addr} (h : SameBlk A B) (k : SameBlk B C) : SameBlk A C := fun ad e => by
  obtain ⟨b, e1, e2⟩ := k ad e
  obtain ⟨a, e3, e4⟩ := h b e1
  exact ⟨a, e3, e2.trans e4⟩
set_option maxHeartbeats 800000 in
theorem read_any (A : Option Addr) (c : Nat) (xs : List Int) (w : World) (h : RdK .u8 w A xs) (hb : Bytes xs) (hl : xs.length ≤ 140737488355328) :
    Calls Try.prog 46 #[.slice A xs.length c] w fun e w' => ∃ p A' c', e = .returned (.pointer (some ⟨p, 0, none⟩)) ∧ w.heap.size ≤ p ∧ Rd2 93 w' p A' c' xs false ∧ (∀ ad, A' = some ad → w.heap.size ≤ ad.block ∧ ad.block < w'.heap.size) ∧ Ext w w' := by
  have H := Lib.hid h; clear h
  go_enter Try.func46, Try.ntmps46
  go_wp2_with (go_at_call 59; refine (cloneB_any _ _ _ _ H.out hl).mono ?_; rintro e w1 ⟨v1, rfl, ho, hx⟩; obtain ⟨A1, c1, rfl, hr, _⟩ := ho.read)
  go_ret
  refine ⟨_, A1, c1, rfl, hx.size, ⟨Lies.new _ _ _ _ rfl, hr.ext ((Ext.refl _).alloc _), fun ad hA => ?_, ho.cap, hb⟩, fun ad hA => ⟨(ho.blk ad hA).1, ?_⟩, hx.alloc _⟩
  rotate_left
  · have := (ho.blk ad hA).2.1
    have h2 : ∀ o : Obj, (w1.alloc o).heap.size = w1.heap.size + 1 := by simp
    rw [h2]; omega
  have := (ho.blk ad hA).2.1
  omega
theorem rdK_drop {q : IntKind} {w : World} {ad : Addr} {xs : List Int} (h : RdK q w (some ad) xs) (k : Nat) : RdK q w (some (ad.add k)) (xs.drop k) := by
  refine ⟨by rw [List.length_drop]; have := h.1; omega, fun i hi => ?_⟩
  rw [List.length_drop] at hi
  obtain ⟨ad', e, hc⟩ := h.2 (k + i) (by omega)
  injection e with e; subst e
  refine ⟨_, rfl, ?_⟩
  have e1 : (ad.add k).add i = ad.add (k + i) := by
    unfold Addr.add
    split <;> split <;> (try split) <;> simp_all <;> omega
  rw [e1, hc]
  rw [nth_get _ _ (by omega), nth_get _ _ (by rw [List.length_drop]; omega), List.getElem_drop]
theorem chg_one (w : World) (p i : Nat) (v : Value) : Chg (fun i => i = p) w (w.setCell ⟨p, i, none⟩ v) := (Chg.refl (fun i => i = p) w).set p i (.inl rfl) v
theorem numOk_le {xs : List Int} (h : numOk xs = true) : cnt xs < xs.length ∧ cnt xs ≤ 5 := by
  simp only [numOk, Bool.and_eq_true, decide_eq_true_eq] at h
  exact ⟨h.1.1.1, h.1.1.2⟩
theorem Rd2.flag {T : Nat} {w : World} {p : Nat} {A : Option Addr} {c : Nat} {xs : List Int} {f : Bool} (h : Rd2 T w p A c xs f) (g : Bool) : Rd2 T (w.setCell ⟨p, 1, none⟩ (.bool g)) p A c xs g :=
  ⟨h.lies.set 1 _, h.row.chg (chg_one _ _ _ _) (fun ad e _ => h.ne ad e), h.ne, h.cap, h.bytes⟩
theorem Rd2.ext {T : Nat} {w w' : World} {p : Nat} {A : Option Addr} {c : Nat} {xs : List Int} {f : Bool} (h : Rd2 T w p A c xs f) (hx : Ext w w') : Rd2 T w' p A c xs f := ⟨h.lies.ext hx, h.row.ext hx, h.ne, h.cap, h.bytes⟩
theorem Rd2.fail {T : Nat} {w : World} {p : Nat} {A : Option Addr} {c : Nat} {xs : List Int} {f : Bool} (h : Rd2 T w p A c xs f) : Rd2 T (w.setCell ⟨p, 1, none⟩ (.bool true)) p A c xs true := h.flag true
theorem Rd2.next {T : Nat} {w : World} {p : Nat} {A : Option Addr} {c : Nat} {xs : List Int} {f : Bool} (h : Rd2 T w p A c xs f) (k : Nat) (A' : Option Addr) (c' : Nat) (hk : k ≤ xs.length) (hr : RdK .u8 w A' (xs.drop k)) (hs : SameBlk A A') (hc : xs.length - k ≤ c') : Rd2 T (w.setCell ⟨p, 0, none⟩ (.slice A' (xs.length - k) c')) p A' c' (xs.drop k) f := by
  have hn : ∀ ad, A' = some ad → ad.block ≠ p := fun ad e => by
    obtain ⟨a0, e1, e2⟩ := hs ad e
    rw [e2]; exact h.ne a0 e1
  have hl := h.lies.set 0 (.slice A' (xs.length - k) c')
  rw [← List.length_drop] at hl ⊢
  exact ⟨hl, hr.chg (chg_one _ _ _ _) (fun ad e _ => hn ad e), hn, by rw [List.length_drop]; exact hc, fun x hx => h.bytes x (List.mem_of_mem_drop hx)⟩
theorem sb1 (ad : Addr) (o : Nat) : SameBlk (some ad) (some ⟨ad.block, o, none⟩) := by
  rintro ad1 h1; injection h1 with h1; subst h1; exact ⟨ad, rfl, rfl⟩
theorem rdK_drop' {q : IntKind} {w : World} {ad : Addr} {xs : List Int} (h : RdK q w (some ad) xs) (k : Nat) : RdK q w (some ⟨ad.block, ad.off + (k + 1), none⟩) (xs.drop (k + 1)) := by
  have := rdK_drop h (k + 1)
  unfold Addr.add at this
  rwa [if_neg (by omega)] at this
set_option maxRecDepth 20000 in
set_option maxHeartbeats 1600000 in
theorem get_any (p : Nat) (A : Option Addr) (c : Nat) (xs : List Int) (f : Bool) (m : Int) (w : World) (h : Rd2 93 w p A c xs f) :
    Calls Try.prog 47 #[.pointer (some ⟨p, 0, none⟩), .int .i64 m] w fun e w' => e = .returned (.int .i64 (getV xs f m)) ∧ Got 93 p A xs f m w w' := by
  have H := Lib.hid h
  obtain ⟨hl0, hl0'⟩ := h.lies.at_ 0 _ rfl
  obtain ⟨hl1, hl1'⟩ := h.lies.at_ 1 _ rfl
  clear h
  cases f
  · cases ho : numOk xs
    · have hn := Lib.hid (num_bad ho)
      have hB : Hid (getB xs false m = true) := by show _ = _; simp [getB, ho]
      have hR : Hid (getR xs false m = xs) := by show _ = _; simp [getR, hB.out]
      have hVV : Hid (getV xs false m = 0) := by show _ = _; simp [getV, hB.out]
      clear ho
      go_enter Try.func47, Try.ntmps47
      go_wp2_with (go_at_call 71; refine (number_any _ _ _ _ H.out.row H.out.bytes).mono ?_; rintro e w1 ⟨he, rfl⟩; rw [hn.out.1, hn.out.2] at he; subst he)
      go_ret
      exact ⟨ret_eq (by rw [hVV.out]; rfl), A, c, by rw [hB.out, hR.out]; exact H.out.fail, chg_one _ _ _ _, SameBlk.refl _⟩
    · have hk := Lib.hid (numOk_le ho)
      have hn : Hid (numS xs = ((cnt xs : Nat) : Int) + 1) := by show _ = _; simp [numS, ho]
      have hk1 := (numOk_le ho).1
      have hk2 := H.out.row.1
      by_cases hm : m < numV xs
      · have hB : Hid (getB xs false m = true) := by show _ = _; simp [getB, hm]
        have hR : Hid (getR xs false m = xs) := by show _ = _; simp [getR, hB.out]
        have hVV : Hid (getV xs false m = 0) := by show _ = _; simp [getV, hB.out]
        clear ho
        go_enter Try.func47, Try.ntmps47
        go_wp2_with (go_at_call 71; refine (number_any _ _ _ _ H.out.row H.out.bytes).mono ?_; rintro e w1 ⟨he, rfl⟩; rw [hn.out] at he; subst he)
        go_ret
        exact ⟨ret_eq (by rw [hVV.out]; rfl), A, c, by rw [hB.out, hR.out]; exact H.out.fail, chg_one _ _ _ _, SameBlk.refl _⟩
      · have hB : Hid (getB xs false m = false) := by show _ = _; simp [getB, hm, ho]
        have hR : Hid (getR xs false m = xs.drop (cnt xs + 1)) := by show _ = _; simp [getR, hB.out]
        have hVV : Hid (getV xs false m = numV xs) := by show _ = _; simp [getV, hB.out]
        have hcap := H.out.cap
        have hmF : Hid (decide (m < numV xs) = false) := by show _ = _; simpa using hm
        have h10 : ((cnt xs : Int) + 1 == 0) = false := by simp; omega
        clear ho
        obtain ⟨ad, rfl, _⟩ := H.out.row.2 (cnt xs) hk1
        by_cases hcc : c ≤ cnt xs + 1
        rotate_left
        · go_enter Try.func47, Try.ntmps47
          go_wp2_with (go_at_call 71; refine (number_any _ _ _ _ H.out.row H.out.bytes).mono ?_; rintro e w1 ⟨he, rfl⟩; rw [hn.out] at he; subst he)
          go_ret
          refine ⟨ret_eq (by rw [hVV.out]; rfl), _, _, by rw [hB.out, hR.out, hmF.out]; exact (H.out.flag false).next (cnt xs + 1) (some ⟨ad.block, ad.off + (cnt xs + 1), none⟩) _ (by omega) (rdK_drop' (H.out.flag false).row _) (sb1 _ _) (by omega), (chg_one _ _ _ _).trans (chg_one _ _ _ _) (fun _ _ h => h), sb1 _ _⟩
        · go_enter Try.func47, Try.ntmps47
          go_wp2_with (go_at_call 71; refine (number_any _ _ _ _ H.out.row H.out.bytes).mono ?_; rintro e w1 ⟨he, rfl⟩; rw [hn.out] at he; subst he)
          go_ret
          have hz : Hid (xs.drop (cnt xs + 1) = []) := List.drop_eq_nil_of_le (by omega)
          refine ⟨ret_eq (by rw [hVV.out]; rfl), some ad, 0, ?_, (chg_one _ _ _ _).trans (chg_one _ _ _ _) (fun _ _ h => h), SameBlk.refl _⟩
          rw [hB.out, hR.out, hmF.out]
          exact (H.out.flag false).next (cnt xs + 1) (some ad) 0 (by omega) (by rw [hz.out]; exact ⟨by simp, fun i hi => by simp at hi⟩) (SameBlk.refl _) (by omega)
  · have hB : Hid (getB xs true m = true) := by show _ = _; simp [getB]
    go_enter Try.func47, Try.ntmps47
    go_wp2
    go_ret
    exact ⟨ret_eq (by simp [getV, hB.out]), A, c, by rw [hB.out, show getR xs true m = xs by simp [getR, hB.out]]; exact H.out, Chg.refl _ _, SameBlk.refl _⟩

set_option maxHeartbeats 400000 in
theorem rfailed_any (p : Nat) (A : Option Addr) (c : Nat) (xs : List Int) (f : Bool) (w : World) (h : Rd2 93 w p A c xs f) :
    Calls Try.prog 49 #[.pointer (some ⟨p, 0, none⟩)] w fun e w' => e = .returned (.bool f) ∧ w = w' := by
  obtain ⟨hl1, hl1'⟩ := h.lies.at_ 1 _ rfl
  clear h
  go_enter Try.func49, Try.ntmps49
  go_wp2
  go_ret
  exact ⟨ret_eq rfl, rfl⟩
theorem rfailed_nil (w : World) : Calls Try.prog 49 #[.pointer none] w fun e w' => e = .returned (.bool true) ∧ w = w' := by
  go_enter Try.func49, Try.ntmps49
  go_wp2
  go_ret
  exact ⟨ret_eq rfl, rfl⟩
def leftV (xs : List Int) (f : Bool) : Int := if f then 0 else xs.length
theorem left_any (p : Nat) (A : Option Addr) (c : Nat) (xs : List Int) (f : Bool) (w : World) (h : Rd2 93 w p A c xs f) :
    Calls Try.prog 50 #[.pointer (some ⟨p, 0, none⟩)] w fun e w' => e = .returned (.int .i64 (leftV xs f)) ∧ w = w' := by
  obtain ⟨hl0, hl0'⟩ := h.lies.at_ 0 _ rfl
  obtain ⟨hl1, hl1'⟩ := h.lies.at_ 1 _ rfl
  clear h
  cases f
  · go_enter Try.func50, Try.ntmps50
    go_wp2
    go_ret
    exact ⟨ret_eq rfl, rfl⟩
  · go_enter Try.func50, Try.ntmps50
    go_wp2
    go_ret
    exact ⟨ret_eq rfl, rfl⟩
theorem left_nil (w : World) : Calls Try.prog 50 #[.pointer none] w fun e w' => e = .returned (.int .i64 0) ∧ w = w' := by
  go_enter Try.func50, Try.ntmps50
  go_wp2
  go_ret
  exact ⟨ret_eq rfl, rfl⟩
theorem get_nil (m : Int) (w : World) : Calls Try.prog 47 #[.pointer none, .int .i64 m] w fun e w' => e = .returned (.int .i64 0) ∧ w = w' := by
  go_enter Try.func47, Try.ntmps47
  go_wp2
  go_ret
  exact ⟨ret_eq rfl, rfl⟩
theorem rleft_any (p : Nat) (A : Option Addr) (c : Nat) (xs : List Int) (f : Bool) (w : World) (h : Rd2 70 w p A c xs f) :
    Calls Try.prog 51 #[.pointer (some ⟨p, 0, none⟩)] w fun e w' => e = .returned (.int .i64 (leftV xs f)) ∧ w = w' := by
  obtain ⟨hl0, hl0'⟩ := h.lies.at_ 0 _ rfl
  obtain ⟨hl1, hl1'⟩ := h.lies.at_ 1 _ rfl
  clear h
  cases f
  · go_enter Try.func51, Try.ntmps51
    go_wp2
    go_ret
    exact ⟨ret_eq rfl, rfl⟩
  · go_enter Try.func51, Try.ntmps51
    go_wp2
    go_ret
    exact ⟨ret_eq rfl, rfl⟩
/-- The value, from the last group down. -/
def hiT (xs : List Int) (n : Nat) : Nat → Nat
  | 0 => 0
  | s + 1 => 128 * hiT xs n s + (nth xs (n - s)).toNat % 128
theorem hiT_eq (xs : List Int) (n s : Nat) (h : s ≤ n + 1) : hiT xs n s * 128 ^ (n + 1 - s) + valTo xs (n + 1 - s) = valTo xs (n + 1) := by
  induction s with
  | zero => simp [hiT]
  | succ s ih =>
    rw [← ih (by omega)]
    have e : n + 1 - s = (n - s) + 1 := by omega
    have e2 : n + 1 - (s + 1) = n - s := by omega
    rw [e, e2]
    simp only [hiT, valTo, Nat.pow_succ]
    rw [Nat.add_mul, Nat.mul_comm 128 (hiT xs n s), Nat.mul_assoc, Nat.mul_comm 128]
    omega
theorem hiT_all (xs : List Int) (n : Nat) : hiT xs n (n + 1) = valTo xs (n + 1) := by
  have := hiT_eq xs n (n + 1) (by omega)
  simpa [valTo] using this
theorem hiT_le (xs : List Int) (n s : Nat) (h : s ≤ n + 1) (hn : n ≤ 5) : hiT xs n s < 4398046511104 := by
  have h1 := hiT_eq xs n s h
  have h2 := valTo_lt xs (n + 1)
  have h3 : (128 : Nat) ^ (n + 1) ≤ 128 ^ 6 := Nat.pow_le_pow_right (by decide) (by omega)
  have h4 : (128 : Nat) ^ 6 = 4398046511104 := by decide
  have h5 : hiT xs n s * 1 ≤ hiT xs n s * 128 ^ (n + 1 - s) := Nat.mul_le_mul_left _ (Nat.pow_pos (by decide))
  omega
theorem oneN_ge (k : Nat) : ∀ n, 128 ^ k ≤ n → k + 1 ≤ (oneN n).length := by
  induction k with
  | zero => intro n _; have := oneN_pos n; omega
  | succ k ih =>
    intro n h
    have hp : (128 : Nat) ^ k ≥ 1 := Nat.pow_pos (by decide)
    rw [Nat.pow_succ] at h
    rw [oneN_big (by omega), List.length_cons]
    have := ih (n / 128) (by rw [Nat.le_div_iff_mul_le (by decide)]; exact h)
    omega
theorem one_len (xs : List Int) (h : Bytes xs) (hs : nth xs (cnt xs) < 128) : (oneN (valTo xs (cnt xs + 1))).length = cnt xs + 1 ↔ ¬ (0 < cnt xs ∧ nth xs (cnt xs) = 0) := by
  have h1 := oneN_length _ _ (valTo_lt xs (cnt xs + 1))
  have h0 := (h.nth (cnt xs)).1
  have hv : valTo xs (cnt xs + 1) = valTo xs (cnt xs) + (nth xs (cnt xs)).toNat % 128 * 128 ^ cnt xs := rfl
  have hl := valTo_lt xs (cnt xs)
  constructor
  · rintro h2 ⟨h3, h4⟩
    rw [hv, h4] at h2
    simp only [Int.toNat_zero, Nat.zero_mod, Nat.zero_mul, Nat.add_zero] at h2
    obtain ⟨k, hk⟩ : ∃ k, cnt xs = k + 1 := ⟨cnt xs - 1, by omega⟩
    rw [hk] at h2 hl
    have := oneN_length _ _ hl
    omega
  · intro h2
    by_cases h3 : 0 < cnt xs
    · have h4 : nth xs (cnt xs) ≠ 0 := fun e => h2 ⟨h3, e⟩
      have h5 : 1 ≤ (nth xs (cnt xs)).toNat % 128 := by omega
      have h6 : 1 * 128 ^ cnt xs ≤ (nth xs (cnt xs)).toNat % 128 * 128 ^ cnt xs := Nat.mul_le_mul_right _ h5
      have := oneN_ge (cnt xs) (valTo xs (cnt xs + 1)) (by omega)
      omega
    · have e : cnt xs = 0 := by omega
      rw [e] at h1 ⊢
      have := oneN_pos (valTo xs (0 + 1))
      omega
end Go.Proofs.Ytkepmkdnmmofmaa
