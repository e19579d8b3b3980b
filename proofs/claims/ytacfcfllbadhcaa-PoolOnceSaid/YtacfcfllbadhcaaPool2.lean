/-
  The pool's functions that change it, of the program and of its reference, walked. Conditions: the pool lies in memory; its generations are not too great.
-/
import Derived.Test.YtacfcfllbadhcaaPool
set_option linter.unusedVariables false
set_option linter.unusedSimpArgs false
namespace Go.Proofs.Ytacfcfllbadhcaa
open Go.RowKit

theorem upd_same {α : Type} (f : Nat → α) (i : Nat) (x : α) : upd f i x i = x := by simp [upd]
theorem upd_ne {α : Type} (f : Nat → α) (i : Nat) (x : α) {j : Nat} (h : j ≠ i) : upd f i x j = f j := by simp [upd, h]
theorem PoolAt.setL {w : World} {p r : Nat} {g : Nat → Nat} {l : Nat → Bool} (h : PoolAt w p r g l) (i : Nat) (hi : i < 256) (b : Bool) : PoolAt (w.setCell ⟨p, 1 + i * 2 + 1, none⟩ (.bool b)) p r g (upd l i b) := by
  obtain ⟨cs, h1, h2, h3, h4⟩ := h.out
  refine ⟨_, h1.set _ _, by simpa using h2, by rw [Array.getElem?_setIfInBounds, if_neg (by omega)]; exact h3, fun j hj => ⟨?_, ?_⟩⟩
  · rw [Array.getElem?_setIfInBounds, if_neg (by omega)]; exact (h4 j hj).1
  · by_cases e : j = i
    · subst e; rw [Array.getElem?_setIfInBounds, if_pos rfl, if_pos (by omega), upd_same]
    · rw [Array.getElem?_setIfInBounds, if_neg (by omega), upd_ne _ _ _ e]; exact (h4 j hj).2
theorem PoolAt.setG {w : World} {p r : Nat} {g : Nat → Nat} {l : Nat → Bool} (h : PoolAt w p r g l) (i : Nat) (hi : i < 256) (x : Nat) : PoolAt (w.setCell ⟨p, 1 + i * 2, none⟩ (.int .i64 (x : Int))) p r (upd g i x) l := by
  obtain ⟨cs, h1, h2, h3, h4⟩ := h.out
  refine ⟨_, h1.set _ _, by simpa using h2, by rw [Array.getElem?_setIfInBounds, if_neg (by omega)]; exact h3, fun j hj => ⟨?_, ?_⟩⟩
  · by_cases e : j = i
    · subst e; rw [Array.getElem?_setIfInBounds, if_pos rfl, if_pos (by omega), upd_same]
    · rw [Array.getElem?_setIfInBounds, if_neg (by omega), upd_ne _ _ _ e]; exact (h4 j hj).1
  · rw [Array.getElem?_setIfInBounds, if_neg (by omega)]; exact (h4 j hj).2
theorem RPoolAt.setL {w : World} {p r : Nat} {g : Nat → Nat} {l : Nat → Bool} (h : RPoolAt w p r g l) (i : Nat) (hi : i < 256) (b : Bool) : RPoolAt (w.setCell ⟨p, 257 + i, none⟩ (.bool b)) p r g (upd l i b) := by
  obtain ⟨cs, h1, h2, h3, h4⟩ := h.out
  refine ⟨_, h1.set _ _, by simpa using h2, by rw [Array.getElem?_setIfInBounds, if_neg (by omega)]; exact h3, fun j hj => ⟨?_, ?_⟩⟩
  · rw [Array.getElem?_setIfInBounds, if_neg (by omega)]; exact (h4 j hj).1
  · by_cases e : j = i
    · subst e; rw [Array.getElem?_setIfInBounds, if_pos rfl, if_pos (by omega), upd_same]
    · rw [Array.getElem?_setIfInBounds, if_neg (by omega), upd_ne _ _ _ e]; exact (h4 j hj).2
theorem RPoolAt.setG {w : World} {p r : Nat} {g : Nat → Nat} {l : Nat → Bool} (h : RPoolAt w p r g l) (i : Nat) (hi : i < 256) (x : Nat) : RPoolAt (w.setCell ⟨p, 1 + i, none⟩ (.int .i64 (x : Int))) p r (upd g i x) l := by
  obtain ⟨cs, h1, h2, h3, h4⟩ := h.out
  refine ⟨_, h1.set _ _, by simpa using h2, by rw [Array.getElem?_setIfInBounds, if_neg (by omega)]; exact h3, fun j hj => ⟨?_, ?_⟩⟩
  · by_cases e : j = i
    · subst e; rw [Array.getElem?_setIfInBounds, if_pos rfl, if_pos (by omega), upd_same]
    · rw [Array.getElem?_setIfInBounds, if_neg (by omega), upd_ne _ _ _ e]; exact (h4 j hj).1
  · rw [Array.getElem?_setIfInBounds, if_neg (by omega)]; exact (h4 j hj).2
theorem PoolAt.chg {F : Nat → Prop} {w w' : World} {p r : Nat} {g : Nat → Nat} {l : Nat → Bool} (h : PoolAt w p r g l) (hc : Chg F w w') (hp : ¬ F p) : PoolAt w' p r g l := by
  obtain ⟨cs, h1, h2⟩ := h.out; exact ⟨cs, h1.chg hc hp, h2⟩
theorem RPoolAt.chg {F : Nat → Prop} {w w' : World} {p r : Nat} {g : Nat → Nat} {l : Nat → Bool} (h : RPoolAt w p r g l) (hc : Chg F w w') (hp : ¬ F p) : RPoolAt w' p r g l := by
  obtain ⟨cs, h1, h2⟩ := h.out; exact ⟨cs, h1.chg hc hp, h2⟩
theorem PoolAt.ext {w w' : World} {p r : Nat} {g : Nat → Nat} {l : Nat → Bool} (h : PoolAt w p r g l) (hx : Ext w w') : PoolAt w' p r g l := by
  obtain ⟨cs, h1, h2⟩ := h.out; exact ⟨cs, h1.ext hx, h2⟩
theorem RPoolAt.ext {w w' : World} {p r : Nat} {g : Nat → Nat} {l : Nat → Bool} (h : RPoolAt w p r g l) (hx : Ext w w') : RPoolAt w' p r g l := by
  obtain ⟨cs, h1, h2⟩ := h.out; exact ⟨cs, h1.ext hx, h2⟩
theorem PoolAt.lt {w : World} {p r : Nat} {g : Nat → Nat} {l : Nat → Bool} (h : PoolAt w p r g l) : p < w.heap.size := by
  obtain ⟨cs, h1, h2⟩ := h.out; exact h1.lt
theorem RPoolAt.lt {w : World} {p r : Nat} {g : Nat → Nat} {l : Nat → Bool} (h : RPoolAt w p r g l) : p < w.heap.size := by
  obtain ⟨cs, h1, h2⟩ := h.out; exact h1.lt
theorem chg_one (w : World) (p i : Nat) (v : Value) : Chg (fun i => i = p) w (w.setCell ⟨p, i, none⟩ v) := (Chg.refl (fun i => i = p) w).set p i (.inl rfl) v

/-- What taking does. -/
def takeV (g : Nat → Nat) (l : Nat → Bool) (r : Nat) : Int := if freeF g l r < r then nameI g (freeF g l r) else 0
def takeE (g : Nat → Nat) (l : Nat → Bool) (r : Nat) : Int := if freeF g l r < r then 0 else 3
def takeL (g : Nat → Nat) (l : Nat → Bool) (r : Nat) : Nat → Bool := if freeF g l r < r then upd l (freeF g l r) true else l
def NoneFree (g : Nat → Nat) (l : Nat → Bool) (k : Nat) : Prop := ∀ i, i < k → freeB g l i = false
theorem freeF_le (g : Nat → Nat) (l : Nat → Bool) (k : Nat) : freeF g l k ≤ k := by
  induction k with
  | zero => simp [freeF]
  | succ k ih => simp only [freeF]; split <;> (try split) <;> omega
theorem freeF_none {g : Nat → Nat} {l : Nat → Bool} {k : Nat} (h : NoneFree g l k) : freeF g l k = k := by
  induction k with
  | zero => rfl
  | succ k ih =>
    have := ih (fun i hi => h i (by omega))
    simp only [freeF, this, h k (by omega)]
    simp
theorem freeF_hit {g : Nat → Nat} {l : Nat → Bool} {k r : Nat} (h : NoneFree g l k) (hk : freeB g l k = true) (hr : k < r) : freeF g l r = k := by
  induction r with
  | zero => omega
  | succ r ih =>
    rcases Nat.lt_or_ge k r with h1 | h1
    · have := ih h1; simp only [freeF, this]; rw [if_pos h1]
    · obtain rfl : k = r := by omega
      simp only [freeF, freeF_none h, hk]; simp
theorem noneFree_succ {g : Nat → Nat} {l : Nat → Bool} {k : Nat} (h : NoneFree g l k) (hk : freeB g l k = false) : NoneFree g l (k + 1) := by
  intro i hi
  rcases Nat.lt_or_ge i k with h1 | h1
  · exact h i h1
  · obtain rfl : i = k := by omega
    exact hk
theorem take_hit {g : Nat → Nat} {l : Nat → Bool} {k r : Nat} (h : NoneFree g l k) (hk : freeB g l k = true) (hr : k < r) : takeV g l r = nameI g k ∧ takeE g l r = 0 ∧ takeL g l r = upd l k true := by
  have e := freeF_hit h hk hr
  simp [takeV, takeE, takeL, e, hr]
theorem take_miss {g : Nat → Nat} {l : Nat → Bool} {r : Nat} (h : NoneFree g l r) : takeV g l r = 0 ∧ takeE g l r = 3 ∧ takeL g l r = l := by
  have e := freeF_none h
  simp [takeV, takeE, takeL, e]
set_option maxHeartbeats 1600000 in
theorem ptake_any (p r : Nat) (g : Nat → Nat) (l : Nat → Bool) (w : World) (h : PoolAt w p r g l) (hg : GenOk r g l) : Calls Try.prog 10 #[.pointer (some ⟨p, 0, none⟩)] w fun e w' => e = .returned (.tuple #[.int .i64 (takeV g l r), .int .i64 (takeE g l r)]) ∧ PoolAt w' p r g (takeL g l r) ∧ Chg (fun i => i = p) w w' := by
  have H := Lib.hid h; clear h
  have HG := Lib.hid hg; clear hg
  have hr := HG.out.room
  have h0 := H.out.at_.1
  go_enter Try.func10, Try.ntmps10
  go_wp2
  go_loop [4, 5, 12] (fun _ _ j => ∃ k : Nat, k ≤ r ∧ j = .int .i64 k ∧ NoneFree g l k) (fun _ _ j => r - (intOf j).toNat)
  case atStart => exact ⟨0, by omega, rfl, fun i hi => by omega⟩
  case round =>
    obtain ⟨k, hk, rfl, hn⟩ := hrel
    have HN := Lib.hid hn; clear hn
    by_cases hlt : k < r
    · obtain ⟨⟨h1, _⟩, h2, h3⟩ := H.out.at_.2 k (by omega)
      have hgk := HG.out.all k
      cases hl : l k
      · rw [hl] at h2
        by_cases hg2 : g k ≤ 65535
        · have ht := take_hit HN.out (by simp [freeB, hl, hg2]) hlt
          have HT := Lib.hid ht; clear ht
          have hp2 := Lib.hid (H.out.setL k (by omega) true)
          go_wp2_with (go_at_call 47; (with_reducible refine (pname_any _ _ _ _ _ _ hp2.out (by omega) hgk).mono ?_); rintro e w' ⟨rfl, rfl⟩)
          go_ret2
          exact ⟨by rw [HT.out.1, HT.out.2.1]; rfl, by rw [HT.out.2.2]; exact hp2.out, chg_one _ _ _ _⟩
        · have hn2 := Lib.hid (noneFree_succ HN.out (by simp [freeB, hg2]))
          go_wp2
          go_round
          case rel => exact ⟨k + 1, by omega, by go_num, hn2.out⟩
          case measure => simp [intOf]; omega
      · rw [hl] at h2
        have hn2 := Lib.hid (noneFree_succ HN.out (by simp [freeB, hl]))
        go_wp2
        go_round
        case rel => exact ⟨k + 1, by omega, by go_num, hn2.out⟩
        case measure => simp [intOf]; omega
    · obtain rfl : k = r := by omega
      have HT := Lib.hid (take_miss HN.out)
      go_wp2
      go_ret2
      exact ⟨by rw [HT.out.1, HT.out.2.1]; rfl, by rw [HT.out.2.2]; exact H.out, Chg.refl _ _⟩
theorem ptake_nil (w : World) : Calls Try.prog 10 #[.pointer none] w fun e w' => e = .returned (.tuple #[.int .i64 0, .int .i64 1]) ∧ w = w' := by
  go_enter Try.func10, Try.ntmps10
  go_wp2
  go_ret2
  exact ⟨rfl, rfl⟩
set_option maxHeartbeats 1600000 in
theorem rtake_any (p r : Nat) (g : Nat → Nat) (l : Nat → Bool) (w : World) (h : RPoolAt w p r g l) (hg : GenOk r g l) : Calls Try.prog 11 #[.pointer (some ⟨p, 0, none⟩)] w fun e w' => e = .returned (.tuple #[.int .i64 (takeV g l r), .int .i64 (takeE g l r)]) ∧ RPoolAt w' p r g (takeL g l r) ∧ Chg (fun i => i = p) w w' := by
  have H := Lib.hid h; clear h
  have HG := Lib.hid hg; clear hg
  have hr := HG.out.room
  have h0 := H.out.at_.1
  go_enter Try.func11, Try.ntmps11
  go_wp2
  go_loop [4] (fun j => ∃ k : Nat, k ≤ r ∧ j = .int .i64 k ∧ NoneFree g l k) (fun j => r - (intOf j).toNat)
  case atStart => exact ⟨0, by omega, rfl, fun i hi => by omega⟩
  case round =>
    obtain ⟨k, hk, rfl, hn⟩ := hrel
    have HN := Lib.hid hn; clear hn
    by_cases hlt : k < r
    · obtain ⟨⟨h1, _⟩, h2, h3⟩ := H.out.at_.2 k (by omega)
      have hgk := HG.out.all k
      cases hl : l k
      · rw [hl] at h2
        by_cases hg2 : g k ≤ 65535
        · have ht := take_hit HN.out (by simp [freeB, hl, hg2]) hlt
          have HT := Lib.hid ht; clear ht
          have hp2 := Lib.hid (H.out.setL k (by omega) true)
          obtain ⟨⟨h4, _⟩, _, _⟩ := hp2.out.at_.2 k (by omega)
          go_wp2
          go_ret2
          exact ⟨by rw [HT.out.1, HT.out.2.1]; rfl, by rw [HT.out.2.2]; exact hp2.out, chg_one _ _ _ _⟩
        · have hn2 := Lib.hid (noneFree_succ HN.out (by simp [freeB, hg2]))
          go_wp2
          go_round
          case rel => exact ⟨k + 1, by omega, by go_num, hn2.out⟩
          case measure => simp [intOf]; omega
      · rw [hl] at h2
        have hn2 := Lib.hid (noneFree_succ HN.out (by simp [freeB, hl]))
        go_wp2
        go_round
        case rel => exact ⟨k + 1, by omega, by go_num, hn2.out⟩
        case measure => simp [intOf]; omega
    · obtain rfl : k = r := by omega
      have HT := Lib.hid (take_miss HN.out)
      go_wp2
      go_ret2
      exact ⟨by rw [HT.out.1, HT.out.2.1]; rfl, by rw [HT.out.2.2]; exact H.out, Chg.refl _ _⟩
end Go.Proofs.Ytacfcfllbadhcaa
