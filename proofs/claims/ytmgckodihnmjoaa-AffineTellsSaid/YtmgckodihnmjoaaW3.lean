/-
  Words for rows of numbers in blocks of their own, and for regions that draw their order. Conditions: none.
-/
import Derived.Test.YtmgckodihnmjoaaMem
import Derived.Laws.CopyOwn
import Derived.Deep.OwnRows
import Derived.Deep.RegionHeld3
import Derived.Deep.DeepCutAuto
set_option linter.unusedVariables false
set_option linter.unusedSimpArgs false
namespace Go.Proofs.Ytmgckodihnmjoaa
open Go.RowKit

theorem rd_some {q : IntKind} {w : World} {A : Option Addr} {xs : List Int} (h : RdK q w A xs) (h0 : 0 < xs.length) : ∃ ad, A = some ad ∧ ∀ i, i < xs.length → w.cell? (ad.add i) = some (.int q (nth xs i)) := by
  obtain ⟨ad, rfl, _⟩ := h.2 0 h0
  refine ⟨ad, rfl, fun i hi => ?_⟩
  obtain ⟨ad', e, hc⟩ := h.2 i hi
  injection e with e; subst e
  exact hc
/-- A call hands back a row of its own; nothing that was there has turned. -/
def RetRow (E : Nat) (q : IntKind) (w : World) (xs : List Int) (e : Ending) (w' : World) : Prop := ∃ v, e = .returned v ∧ Own E q w.heap.size w' v xs ∧ Ext w w'
/-- A call hands back a value; nothing that was there has turned. -/
def RetX (w : World) (v : Value) (e : Ending) (w' : World) : Prop := e = .returned v ∧ Ext w w'
structure Drw (w w' : World) : Prop where mk :: (out : ∃ n, w' = w.drewN n)
theorem Drw.refl (w : World) : Drw w w := ⟨⟨0, rfl⟩⟩
theorem Drw.step {w w' : World} (h : Drw w w') (n : Nat) : Drw w (w'.drewN n) := by
  obtain ⟨m, rfl⟩ := h
  exact ⟨⟨m + n, World.drewN_drewN ..⟩⟩
theorem Drw.ext {w w' : World} (h : Drw w w') : Ext w w' := by
  obtain ⟨n, rfl⟩ := h
  exact (Ext.refl w).drewN n
theorem Drw.cell {w w' : World} (h : Drw w w') (a : Addr) : w'.cell? a = w.cell? a := by
  obtain ⟨n, rfl⟩ := h
  simp
/-- A block of so many numbers. -/
structure RowF (w : World) (g e N : Nat) (f : Nat → Nat) : Prop where mk :: (out : ∃ cs, Lies w g cs e ∧ cs.size = N ∧ ∀ j, j < N → cs[j]? = some (.int .i64 (f j : Int)))
theorem RowF.at_ {w : World} {g e N : Nat} {f : Nat → Nat} (h : RowF w g e N f) (j : Nat) (hj : j < N) : w.cell? ⟨g, j, none⟩ = some (.int .i64 (f j : Int)) ∧ w.frozen? ⟨g, j, none⟩ = false := by
  obtain ⟨cs, h1, _, h3⟩ := h.out
  exact h1.at_ j _ (h3 j hj)
theorem RowF.chg {F : Nat → Prop} {w w' : World} {g e N : Nat} {f : Nat → Nat} (h : RowF w g e N f) (hc : Chg F w w') (hp : ¬ F g) : RowF w' g e N f := by
  obtain ⟨cs, h1, h2⟩ := h.out
  exact ⟨⟨cs, h1.chg hc hp, h2⟩⟩
theorem RowF.ext {w w' : World} {g e N : Nat} {f : Nat → Nat} (h : RowF w g e N f) (hc : Ext w w') : RowF w' g e N f := by
  obtain ⟨cs, h1, h2⟩ := h.out
  exact ⟨⟨cs, h1.ext hc, h2⟩⟩
theorem RowF.lt {w : World} {g e N : Nat} {f : Nat → Nat} (h : RowF w g e N f) : g < w.heap.size := by
  obtain ⟨cs, h1, h2⟩ := h.out
  exact h1.lt
theorem RowF.congr {w : World} {g e N : Nat} {f f' : Nat → Nat} (h : RowF w g e N f) (hf : ∀ j, j < N → f j = f' j) : RowF w g e N f' := by
  obtain ⟨cs, h1, h2, h3⟩ := h.out
  exact ⟨⟨cs, h1, h2, fun j hj => by rw [h3 j hj, hf j hj]⟩⟩
def updN (f : Nat → Nat) (i x : Nat) (j : Nat) : Nat := if j = i then x else f j
theorem updN_same (f : Nat → Nat) (i x : Nat) : updN f i x i = x := by simp [updN]
theorem updN_ne (f : Nat → Nat) (i x : Nat) {j : Nat} (h : j ≠ i) : updN f i x j = f j := by simp [updN, h]
theorem RowF.set {w : World} {g e N : Nat} {f : Nat → Nat} (h : RowF w g e N f) (i : Nat) (x : Nat) : RowF (w.setCell ⟨g, i, none⟩ (.int .i64 (x : Int))) g e N (updN f i x) := by
  obtain ⟨cs, h1, h2, h3⟩ := h.out
  refine ⟨⟨_, h1.set _ _, by simpa using h2, fun j hj => ?_⟩⟩
  by_cases e : j = i
  · subst e; rw [Array.getElem?_setIfInBounds, if_pos rfl, if_pos (by omega), updN_same]
  · rw [Array.getElem?_setIfInBounds, if_neg (by omega), updN_ne _ _ _ e]; exact h3 j hj
theorem RowF.other {w : World} {g e N : Nat} {f : Nat → Nat} (h : RowF w g e N f) {k : Nat} (hk : k ≠ g) (i : Nat) (v : Value) : RowF (w.setCell ⟨k, i, none⟩ v) g e N f :=
  h.chg ((Chg.refl (fun i => i = k) w).set k i (.inl rfl) v) (fun h => hk h.symm)
theorem RowF.made (w : World) (e N n : Nat) (hn : n = w.heap.size) : RowF (w.alloc (.cells (madeCells #[.int .i64 0] N) e)) n e N (fun _ => 0) := by
  refine ⟨⟨_, Lies.new _ _ _ _ hn, by simp [madeCells], fun j hj => ?_⟩⟩
  have := toList_madeCells_one (.int .i64 0) N
  rw [← Array.getElem?_toList, this, List.getElem?_replicate, if_pos hj]; rfl
theorem RowF.own {w : World} {g e N : Nat} {f : Nat → Nat} (h : RowF w g e N f) (b : Nat) (hb : b ≤ g) (hN : N ≤ maxLen) : Own e .i64 b w (.slice (some ⟨g, 0, none⟩) N N) ((List.range N).map (fun j => (f j : Int))) := by
  obtain ⟨cs, h1, h2, h3⟩ := h.out
  refine ⟨by simp, .inr ⟨g, N, cs, by simp, hb, h1.out, by simp, hN, by simpa using h2, ?_⟩⟩
  apply List.ext_getElem?
  intro j
  simp only [List.length_map, List.length_range, Nat.mul_one, List.getElem?_take, List.getElem?_map]
  by_cases hj : j < N
  · have := h3 j hj
    rw [if_pos hj, Array.getElem?_toList, this]
    simp [hj]
  · rw [if_neg hj]; simp [hj]
/-- It is a slice that can be read. -/
theorem RowF.read {w : World} {g e N : Nat} {f : Nat → Nat} (h : RowF w g e N f) (hN : N ≤ 9223372036854775807) : RdK .i64 w (some ⟨g, 0, none⟩) ((List.range N).map (fun j => (f j : Int))) := by
  refine ⟨by simpa using hN, fun i hi => ⟨_, rfl, ?_⟩⟩
  simp only [List.length_map, List.length_range] at hi
  have : ((⟨g, 0, none⟩ : Addr).add i) = ⟨g, i, none⟩ := by unfold Addr.add; split <;> simp_all
  rw [this, (h.at_ i hi).1, nth_get _ _ (by simpa using hi)]
  simp
section
variable {P : Program} {ops : Array Oper} {rest : List Oper} {a : Act} {Q : Exit → Act → World → Prop}
/-- append(v, ys...), the second one's length spelled otherwise. -/
theorem app_rowN {w0 W : World} {dst : Option Tmp} {s x : Operand} {t ty : TypeId} {pos : String} {after : Array Edge} {e : TypeId} {q : IntKind} (bytes : Nat)
    (ht : P.underlying t = some (.slice e)) (hinfo : (P.info? e).map (fun i => (i.zero, i.size, i.bytes)) = some (some (.int q 0), 1, bytes)) (hb0 : 0 < bytes)
    (v : Value) (xs ys : List Int) (A : Option Addr) (c m : Nat) (hm : ys.length = m) (hs : a.eval s = v) (hx : a.eval x = .slice A m c)
    (HO : Own e q w0.heap.size W v xs) (HX : Ext w0 W) (HR : RdK q W A ys) (hlen : (xs.length + ys.length) * bytes ≤ 140737488355328)
    (h : ∀ v1 w1, Own e q w0.heap.size w1 v1 (xs ++ ys) → Ext w0 w1 → wpList P ops Q rest (a.put dst v1) w1) :
    wpList P ops Q (appOp dst s x t ty pos after :: rest) a W := by
  subst hm
  exact app_row bytes ht hinfo hb0 v xs ys A c hs hx HO HX HR hlen h
abbrev copyOp (dst : Option Tmp) (s x : Operand) (t ty : TypeId) (pos : String) (after : Array Edge) : Oper :=
  { dst := dst, op := .call { callee := .builtin .copy, args := #[s, x], argTypes := #[t, t] }, type := ty, pos := pos, after := after, guard := none }
/-- copy(to, from), both of them rows of so many numbers. -/
theorem copy_rowF {W : World} {dst : Option Tmp} {s x : Operand} {t ty : TypeId} {pos : String} {after : Array Edge} {e g gs N cd cs : Nat} {f f' : Nat → Nat}
    (hu : P.underlying t = some (.slice e)) (hsz : (P.info? e).map (·.size) = some 1) (hd : a.eval s = .slice (some ⟨g, 0, none⟩) N cd) (hs : a.eval x = .slice (some ⟨gs, 0, none⟩) N cs)
    (H : RowF W g e N f) (H' : RowF W gs e N f')
    (h : ∀ w1, RowF w1 g e N f' → Chg (fun i => i = g) W w1 → wpList P ops Q rest (a.put dst (goInt N)) w1) :
    wpList P ops Q (copyOp dst s x t ty pos after :: rest) a W := by
  obtain ⟨cur, hl, hn, _⟩ := H.out
  have hlen : ((List.range N).map (fun j => Value.int .i64 (f' j : Int))).length = N := by simp
  refine wpList_copy_own rfl s x t t rfl e hu hsz g 0 N cd ⟨gs, 0, none⟩ N cs hd hs cur e hl.out ((List.range N).map (fun j => Value.int .i64 (f' j : Int))) (by rw [hlen]; exact (Nat.min_self N).symm) (fun j v hv => ?_) (by rw [hlen]; omega) (fun v hv => ?_) ?_
  · rw [List.getElem?_map] at hv
    obtain ⟨i, hi, rfl⟩ := Option.map_eq_some_iff.1 hv
    obtain ⟨hj, hj2⟩ := List.getElem?_eq_some_iff.1 hi
    simp only [List.getElem_range] at hj2
    subst hj2
    have : ((⟨gs, 0, none⟩ : Addr).add j) = ⟨gs, j, none⟩ := by unfold Addr.add; split <;> simp_all
    rw [this]
    exact (H'.at_ j (by simpa using hj)).1
  · simp only [List.mem_map] at hv
    obtain ⟨i, _, rfl⟩ := hv
    rfl
  · rw [hlen]
    refine h _ ?_ ?_
    · refine ⟨⟨_, ⟨setRow_heap W g _ _ e _ hl.out⟩, ?_, fun j hj => ?_⟩⟩
      · simp; omega
      · simp [hj, List.getElem?_append]
    · exact ⟨rfl, rfl, rfl, by simp, fun i hi hp => setRow_other W g i _ hp⟩
end
end Go.Proofs.Ytmgckodihnmjoaa
