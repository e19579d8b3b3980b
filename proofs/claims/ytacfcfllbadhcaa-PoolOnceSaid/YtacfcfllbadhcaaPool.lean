/-
  The pool, of the program and of its reference: what lies in memory; its functions, walked. Conditions: the pool lies in memory; its generations are not too great.
-/
import Derived.Test.YtacfcfllbadhcaaMem
import Derived.Test.YtacfcfllbadhcaaProg
set_option linter.unusedVariables false
set_option linter.unusedSimpArgs false
namespace Go.Proofs.Ytacfcfllbadhcaa
open Go.RowKit

/-- A pool of the program at a block: of each index the generation, and whether its name lives. -/
structure PoolAt (w : World) (p r : Nat) (g : Nat → Nat) (l : Nat → Bool) : Prop where mk ::
  (out : ∃ cs, Lies w p cs 95 ∧ cs.size = 513 ∧ cs[0]? = some (.int .i64 (r : Int)) ∧ ∀ i, i < 256 → cs[1 + i * 2]? = some (.int .i64 (g i : Int)) ∧ cs[1 + i * 2 + 1]? = some (.bool (l i)))
/-- A pool of the reference. -/
structure RPoolAt (w : World) (p r : Nat) (g : Nat → Nat) (l : Nat → Bool) : Prop where mk ::
  (out : ∃ cs, Lies w p cs 33 ∧ cs.size = 513 ∧ cs[0]? = some (.int .i64 (r : Int)) ∧ ∀ i, i < 256 → cs[1 + i]? = some (.int .i64 (g i : Int)) ∧ cs[257 + i]? = some (.bool (l i)))
/-- The generations of a pool that has been made and played. -/
structure GenOk (r : Nat) (g : Nat → Nat) (l : Nat → Bool) : Prop where
  room : r ≤ 256
  all : ∀ i, g i ≤ 65536
  lives : ∀ i, l i = true → g i ≤ 65535
def freeB (g : Nat → Nat) (l : Nat → Bool) (i : Nat) : Bool := !l i && decide (g i ≤ 65535)
/-- The first index below a number that is free, or that number. -/
def freeF (g : Nat → Nat) (l : Nat → Bool) : Nat → Nat
  | 0 => 0
  | k + 1 => if freeF g l k < k then freeF g l k else if freeB g l k then k else k + 1
def upd {α : Type} (f : Nat → α) (i : Nat) (x : α) (j : Nat) : α := if j = i then x else f j
def nameI (g : Nat → Nat) (i : Nat) : Int := 256 * (g i : Int) + i
def rightB (id : Int) : Bool := decide (0 ≤ id) && decide (id < 16777216)
def ixV (id : Int) : Int := if rightB id then id % 256 else -1
def genV (id : Int) : Int := if rightB id then id / 256 else -1
def liveV (g : Nat → Nat) (l : Nat → Bool) (id : Int) : Bool := rightB id && l (id % 256).toNat && decide ((g (id % 256).toNat : Int) = id / 256)
def allL (g : Nat → Nat) (l : Nat → Bool) : Nat → List Int
  | 0 => []
  | k + 1 => allL g l k ++ (if l k then [nameI g k] else [])

set_option maxHeartbeats 400000 in
theorem pright_any (id : Int) (w : World) : Calls Try.prog 48 #[.int .i64 id] w fun e w' => e = .returned (.bool (rightB id)) ∧ w = w' := by
  by_cases h : 0 ≤ id
  · go_enter Try.func48, Try.ntmps48
    go_wp2
    go_ret
    exact ⟨ret_eq (by simp [rightB, h]), rfl⟩
  · go_enter Try.func48, Try.ntmps48
    go_wp2
    go_ret
    exact ⟨ret_eq (by simp [rightB]; omega), rfl⟩
theorem rright_any (id : Int) (w : World) : Calls Try.prog 20 #[.int .i64 id] w fun e w' => e = .returned (.bool (rightB id)) ∧ w = w' := by
  by_cases h : 0 ≤ id
  · go_enter Try.func20, Try.ntmps20
    go_wp2
    go_ret
    exact ⟨ret_eq (by simp [rightB, h]), rfl⟩
  · go_enter Try.func20, Try.ntmps20
    go_wp2
    go_ret
    exact ⟨ret_eq (by simp [rightB]; omega), rfl⟩
theorem pindex_any (id : Int) (w : World) : Calls Try.prog 21 #[.int .i64 id] w fun e w' => e = .returned (.int .i64 (ixV id)) ∧ w = w' := by
  cases h : rightB id
  · go_enter Try.func21, Try.ntmps21
    go_wp2_with (go_at_call 48; (with_reducible refine (pright_any _ _).mono ?_); rintro e w' ⟨rfl, rfl⟩)
    go_ret
    exact ⟨ret_eq (by simp [ixV, h]), rfl⟩
  · have h2 : 0 ≤ id ∧ id < 16777216 := by simp [rightB] at h; omega
    obtain ⟨h2, h3⟩ := h2
    go_enter Try.func21, Try.ntmps21
    go_wp2_with (go_at_call 48; (with_reducible refine (pright_any _ _).mono ?_); rintro e w' ⟨rfl, rfl⟩)
    go_ret
    exact ⟨ret_eq (by simp [ixV, h]), rfl⟩
theorem pgen_any (id : Int) (w : World) : Calls Try.prog 22 #[.int .i64 id] w fun e w' => e = .returned (.int .i64 (genV id)) ∧ w = w' := by
  cases h : rightB id
  · go_enter Try.func22, Try.ntmps22
    go_wp2_with (go_at_call 48; (with_reducible refine (pright_any _ _).mono ?_); rintro e w' ⟨rfl, rfl⟩)
    go_ret
    exact ⟨ret_eq (by simp [genV, h]), rfl⟩
  · have h2 : 0 ≤ id ∧ id < 16777216 := by simp [rightB] at h; omega
    obtain ⟨h2, h3⟩ := h2
    go_enter Try.func22, Try.ntmps22
    go_wp2_with (go_at_call 48; (with_reducible refine (pright_any _ _).mono ?_); rintro e w' ⟨rfl, rfl⟩)
    go_ret
    exact ⟨ret_eq (by simp [genV, h]), rfl⟩
theorem PoolAt.at_ {w : World} {p r : Nat} {g : Nat → Nat} {l : Nat → Bool} (h : PoolAt w p r g l) : (w.cell? ⟨p, 0, none⟩ = some (.int .i64 (r : Int))) ∧ ∀ i, i < 256 → (w.cell? ⟨p, 1 + i * 2, none⟩ = some (.int .i64 (g i : Int)) ∧ w.frozen? ⟨p, 1 + i * 2, none⟩ = false) ∧ (w.cell? ⟨p, 1 + i * 2 + 1, none⟩ = some (.bool (l i)) ∧ w.frozen? ⟨p, 1 + i * 2 + 1, none⟩ = false) := by
  obtain ⟨cs, h1, h2, h3, h4⟩ := h.out
  exact ⟨(h1.at_ 0 _ h3).1, fun i hi => ⟨h1.at_ _ _ (h4 i hi).1, h1.at_ _ _ (h4 i hi).2⟩⟩
set_option maxHeartbeats 400000 in
theorem pname_any (p r : Nat) (g : Nat → Nat) (l : Nat → Bool) (i : Nat) (w : World) (h : PoolAt w p r g l) (hi : i < 256) (hg : g i ≤ 65536) : Calls Try.prog 47 #[.pointer (some ⟨p, 0, none⟩), .int .i64 (i : Int)] w fun e w' => e = .returned (.int .i64 (nameI g i)) ∧ w = w' := by
  obtain ⟨⟨h1, _⟩, h2, _⟩ := h.at_.2 i hi
  go_enter Try.func47, Try.ntmps47
  go_wp2
  go_ret
  exact ⟨ret_eq rfl, rfl⟩
set_option maxHeartbeats 400000 in
theorem plive_any (p r : Nat) (g : Nat → Nat) (l : Nat → Bool) (id : Int) (w : World) (h : PoolAt w p r g l) (hg : GenOk r g l) : Calls Try.prog 15 #[.pointer (some ⟨p, 0, none⟩), .int .i64 id] w fun e w' => e = .returned (.bool (liveV g l id)) ∧ w = w' := by
  have H := Lib.hid h; clear h
  have HG := Lib.hid hg; clear hg
  have hI : Hid (ixV id = if rightB id then id % 256 else -1) := rfl
  cases hr : rightB id
  · rw [hr] at hI
    have hl : Hid (liveV g l id = false) := by show _ = _; simp [liveV, hr]
    clear hr
    go_enter Try.func15, Try.ntmps15
    go_wp2_with (go_at_call 21; refine (pindex_any _ _).mono ?_; rintro e w' ⟨he, rfl⟩; rw [hI.out] at he; subst he)
    go_ret
    exact ⟨ret_eq (by rw [hl.out]; rfl), rfl⟩
  · rw [hr] at hI
    obtain ⟨i, hi, hii⟩ : ∃ i : Nat, i < 256 ∧ id % 256 = (i : Int) := ⟨(id % 256).toNat, by omega, by omega⟩
    have hi2 : (id % 256).toNat = i := by omega
    have hI2 : Hid (ixV id = (i : Int)) := by show _ = _; rw [hI.out, if_pos rfl, hii]
    have hL : Hid (liveV g l id = (l i && decide ((g i : Int) = id / 256))) := by show _ = _; simp [liveV, hr, hi2]
    have hr2 : 0 ≤ id := by simp [rightB] at hr; omega
    obtain ⟨⟨h1, _⟩, h2, _⟩ := H.out.at_.2 i hi
    have hn : Hid ((nameI g i == id) = decide ((g i : Int) = id / 256)) := by
      show _ = _
      rw [Bool.eq_iff_iff]
      simp only [beq_iff_eq, decide_eq_true_eq, nameI]
      omega
    have hgi := HG.out.all i
    clear hr hii hi2 hI
    cases hl : l i
    · rw [hl] at h2
      go_enter Try.func15, Try.ntmps15
      go_wp2_with (first | (go_at_call 21; refine (pindex_any _ _).mono ?_; rintro e w' ⟨he, rfl⟩; rw [hI2.out] at he; subst he) | (go_at_call 47; (with_reducible refine (pname_any _ _ _ _ _ _ H.out hi hgi).mono ?_); rintro e w' ⟨rfl, rfl⟩))
      go_ret
      exact ⟨ret_eq (by rw [hL.out, hl]; rfl), rfl⟩
    · rw [hl] at h2
      go_enter Try.func15, Try.ntmps15
      go_wp2_with (first | (go_at_call 21; refine (pindex_any _ _).mono ?_; rintro e w' ⟨he, rfl⟩; rw [hI2.out] at he; subst he) | (go_at_call 47; (with_reducible refine (pname_any _ _ _ _ _ _ H.out hi hgi).mono ?_); rintro e w' ⟨rfl, rfl⟩))
      go_ret
      exact ⟨ret_eq (by rw [hL.out, hl, ← hn.out]; rfl), rfl⟩
theorem plive_nil (id : Int) (w : World) : Calls Try.prog 15 #[.pointer none, .int .i64 id] w fun e w' => e = .returned (.bool false) ∧ w = w' := by
  go_enter Try.func15, Try.ntmps15
  go_wp2_with (go_at_call 21; (with_reducible refine (pindex_any _ _).mono ?_); rintro e w' ⟨rfl, rfl⟩)
  go_ret
  exact ⟨ret_eq rfl, rfl⟩
theorem RPoolAt.at_ {w : World} {p r : Nat} {g : Nat → Nat} {l : Nat → Bool} (h : RPoolAt w p r g l) : (w.cell? ⟨p, 0, none⟩ = some (.int .i64 (r : Int))) ∧ ∀ i, i < 256 → (w.cell? ⟨p, 1 + i, none⟩ = some (.int .i64 (g i : Int)) ∧ w.frozen? ⟨p, 1 + i, none⟩ = false) ∧ (w.cell? ⟨p, 257 + i, none⟩ = some (.bool (l i)) ∧ w.frozen? ⟨p, 257 + i, none⟩ = false) := by
  obtain ⟨cs, h1, h2, h3, h4⟩ := h.out
  exact ⟨(h1.at_ 0 _ h3).1, fun i hi => ⟨h1.at_ _ _ (h4 i hi).1, h1.at_ _ _ (h4 i hi).2⟩⟩
set_option maxHeartbeats 400000 in
theorem rlive_any (p r : Nat) (g : Nat → Nat) (l : Nat → Bool) (id : Int) (w : World) (h : RPoolAt w p r g l) (hg : GenOk r g l) : Calls Try.prog 18 #[.pointer (some ⟨p, 0, none⟩), .int .i64 id] w fun e w' => e = .returned (.bool (liveV g l id)) ∧ w = w' := by
  have H := Lib.hid h; clear h
  have HG := Lib.hid hg; clear hg
  cases hr : rightB id
  · have hl : Hid (liveV g l id = false) := by show _ = _; simp [liveV, hr]
    go_enter Try.func18, Try.ntmps18
    go_wp2_with (go_at_call 20; (with_reducible refine (rright_any _ _).mono ?_); rintro e w' ⟨rfl, rfl⟩)
    go_ret
    exact ⟨ret_eq (by rw [hl.out]; rfl), rfl⟩
  · obtain ⟨i, hi, hii⟩ : ∃ i : Nat, i < 256 ∧ id % 256 = (i : Int) := ⟨(id % 256).toNat, by omega, by omega⟩
    have hi2 : (id % 256).toNat = i := by omega
    have hL : Hid (liveV g l id = (l i && decide ((g i : Int) = id / 256))) := by show _ = _; simp [liveV, hr, hi2]
    have hr2 : 0 ≤ id ∧ id < 16777216 := by simp [rightB] at hr; omega
    obtain ⟨hr3, hr4⟩ := hr2
    obtain ⟨⟨h1, _⟩, h2, _⟩ := H.out.at_.2 i hi
    have hgi := HG.out.all i
    have hq : Hid (((g i : Int) == id / 256) = decide ((g i : Int) = id / 256)) := by
      show _ = _
      rw [Bool.eq_iff_iff]; simp
    clear hi2
    cases hl : l i
    · rw [hl] at h2
      go_enter Try.func18, Try.ntmps18
      go_wp2_with (go_at_call 20; (with_reducible refine (rright_any _ _).mono ?_); rintro e w' ⟨rfl, rfl⟩)
      go_ret
      exact ⟨ret_eq (by rw [hL.out, hl]; rfl), rfl⟩
    · rw [hl] at h2
      go_enter Try.func18, Try.ntmps18
      go_wp2_with (go_at_call 20; (with_reducible refine (rright_any _ _).mono ?_); rintro e w' ⟨rfl, rfl⟩)
      go_ret
      exact ⟨ret_eq (by rw [hL.out, hl, ← hq.out]; rfl), rfl⟩
end Go.Proofs.Ytacfcfllbadhcaa
