/-
  Rows of structs of numbers that a call makes: appended to, read. Conditions: none.
-/
import Derived.Test.YtmgckodihnmjoaaW5
set_option linter.unusedVariables false
set_option linter.unusedSimpArgs false
namespace Go.Proofs.Ytmgckodihnmjoaa
open Go.RowKit

def cellsM (m : Nat) (f : Nat → Nat → Int) : Nat → List Value
  | 0 => []
  | n + 1 => cellsM m f n ++ (List.range m).map fun j => Value.int .i64 (f n j)
theorem cellsM_len (m : Nat) (f : Nat → Nat → Int) (n : Nat) : (cellsM m f n).length = n * m := by
  induction n with
  | zero => simp [cellsM]
  | succ n ih => simp [cellsM, ih, Nat.succ_mul]
theorem cellsM_get (m : Nat) (f : Nat → Nat → Int) (n i j : Nat) (hi : i < n) (hj : j < m) : (cellsM m f n)[i * m + j]? = some (.int .i64 (f i j)) := by
  induction n with
  | zero => omega
  | succ n ih =>
    unfold cellsM
    rcases Nat.lt_or_ge i n with h | h
    · have h1 : i * m + j < n * m := by
        have h2 : (i + 1) * m ≤ n * m := Nat.mul_le_mul_right _ h
        rw [Nat.succ_mul] at h2; omega
      rw [List.getElem?_append_left (by rw [cellsM_len]; exact h1), ih h]
    · obtain rfl : i = n := by omega
      rw [List.getElem?_append_right (by rw [cellsM_len]; omega), cellsM_len]
      simp [hj]
/-- A row of the call's own, of structs of so many numbers. -/
def OwnM (e m base : Nat) (w : World) (v : Value) (n : Nat) (f : Nat → Nat → Int) : Prop := w.ownsRow base e m v n (cellsM m f n)
theorem OwnM.ext {e m b : Nat} {w w1 : World} {v : Value} {n : Nat} {f : Nat → Nat → Int} (h : OwnM e m b w v n f) (hx : Ext w w1) : OwnM e m b w1 v n f := own_ext h hx
theorem OwnM.lower {e m b b' : Nat} {w : World} {v : Value} {n : Nat} {f : Nat → Nat → Int} (h : OwnM e m b w v n f) (hb : b' ≤ b) : OwnM e m b' w v n f := own_lower h hb
theorem OwnM.from_ {e m b : Nat} {w : World} {v : Value} {n : Nat} {f : Nat → Nat → Int} (h : OwnM e m b w v n f) : ∀ k, v.ownBlock = some k → b ≤ k := own_from h
theorem OwnM.nil (e m b : Nat) (w : World) (f : Nat → Nat → Int) : OwnM e m b w (.slice none 0 0) 0 f := World.ownsRow_nil w b e m
theorem OwnM.read {e m b : Nat} {w : World} {v : Value} {n : Nat} {f : Nat → Nat → Int} (h : OwnM e m b w v n f) : ∃ A c, v = .slice A n c ∧ RdM m w A n f := by
  rcases Nat.eq_zero_or_pos n with h0 | h0
  · subst h0
    rcases h.2 with ⟨rfl, _⟩ | ⟨g, cap, cur, rfl, _⟩
    · exact ⟨none, 0, rfl, rdM_nil _ _ _ _⟩
    · exact ⟨_, cap, rfl, rdM_nil _ _ _ _⟩
  · have hm : n ≤ 9223372036854775807 := by
      rcases h.2 with ⟨_, h1⟩ | ⟨g', cap', cur, he, _, _, h1, h2, _⟩
      · omega
      · simp only [maxLen] at h2; omega
    obtain ⟨g, cap, rfl, _, _⟩ := World.ownsRow.form h h0
    refine ⟨_, cap, rfl, hm, fun i hi => ⟨_, rfl, fun j hj => World.ownsRow.cells h (g := g) rfl (i * m + j) _ (cellsM_get m f n i j hi hj)⟩⟩
section
variable {P : Program} {ops : Array Oper} {rest : List Oper} {a : Act} {Q : Exit → Act → World → Prop}
/-- append(v, x), v a row of structs of numbers; x lies in a block that has just been made. -/
theorem app_oneM {w0 W : World} {dst : Option Tmp} {s x : Operand} {t ty : TypeId} {pos : String} {after : Array Edge} {N : Nat} {e m : Nat} (z : Value) (bytes : Nat) (f : Nat → Nat → Int) (cs : Array Value) (te : TypeId)
    (ht : P.underlying t = some (.slice e)) (hinfo : (P.info? e).map (fun i => (i.zero, i.size, i.bytes)) = some (some z, m, bytes)) (hz : z.cells.size = m) (hm0 : 0 < m) (hb0 : 0 < bytes)
    (v : Value) (n : Nat) (hN : N = W.heap.size) (hs : a.eval s = v) (hx : a.eval x = .slice (some ⟨N, 0, none⟩) 1 1)
    (hcs : cs.toList = (List.range m).map fun j => Value.int .i64 (f n j))
    (HO : OwnM e m w0.heap.size W v n f) (HX : Ext w0 W) (hlen : (n + 1) * bytes ≤ 140737488355328)
    (h : ∀ v1 w1, OwnM e m w0.heap.size w1 v1 (n + 1) f → Ext w0 w1 → wpList P ops Q rest (a.put dst v1) w1) :
    wpList P ops Q (appOp dst s x t ty pos after :: rest) a (W.alloc (.cells cs te)) := by
  subst hN
  refine app_cells rfl s x t e z m bytes rfl ht hinfo hz hm0 hb0 w0.heap.size v n (cellsM m f n) hs (HO.ext ((Ext.refl _).alloc _)) (some ⟨W.heap.size, 0, none⟩) 1 1 (cs.toList) hx (by rw [hcs]; simp) (fun hn => by simp at hn)
    (fun ad hn j u hu => ?_) (fun u hu => ?_) hlen (by have := HX.size; simp; omega) ?_
  · injection hn with hn; subst hn; rw [cell_new, ← Array.getElem?_toList]; exact hu
  · rw [hcs] at hu; simp at hu; obtain ⟨j, _, rfl⟩ := hu; rfl
  · intro v1 w1 h2 h3 _
    refine h v1 w1 ?_ ((HX.alloc _).grown h3 HO.from_)
    rw [hcs] at h2
    exact h2
end
end Go.Proofs.Ytmgckodihnmjoaa
