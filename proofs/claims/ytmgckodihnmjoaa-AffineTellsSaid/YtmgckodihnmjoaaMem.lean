/-
  Words for objects in memory that are changed: what lies at a block; worlds that have changed at some blocks alone. Conditions: none.
-/
import Derived.Test.YtmgckodihnmjoaaW2
set_option linter.unusedVariables false
set_option linter.unusedSimpArgs false
namespace Go.Proofs.Ytmgckodihnmjoaa
open Go.RowKit

/-- A block's cells. -/
structure Lies (w : World) (p : Nat) (cs : Array Value) (t : Nat) : Prop where mk :: (out : w.heap[p]? = some (.cells cs t (0, 0)))
theorem Lies.lt {w : World} {p : Nat} {cs : Array Value} {t : Nat} (h : Lies w p cs t) : p < w.heap.size := by
  obtain ⟨h1, _⟩ := Array.getElem?_eq_some_iff.1 h.out; exact h1
theorem Lies.at_ {w : World} {p : Nat} {cs : Array Value} {t : Nat} (h : Lies w p cs t) (i : Nat) (v : Value) (hv : cs[i]? = some v) : w.cell? ⟨p, i, none⟩ = some v ∧ w.frozen? ⟨p, i, none⟩ = false := by
  constructor
  · unfold World.cell?; simp only [h.out]; simpa using hv
  · unfold World.frozen?; simp only [h.out]; simp
theorem Lies.new (w : World) (cs : Array Value) (t n : Nat) (hn : n = w.heap.size) : Lies (w.alloc (.cells cs t)) n cs t := by
  subst hn; exact ⟨heap_alloc_new w _⟩
theorem Lies.set {w : World} {p : Nat} {cs : Array Value} {t : Nat} (h : Lies w p cs t) (i : Nat) (v : Value) : Lies (w.setCell ⟨p, i, none⟩ v) p (cs.setIfInBounds i v) t := by
  refine ⟨?_⟩
  unfold World.setCell
  simp only [Array.getElem?_modify]
  rw [h.out]; simp
theorem Lies.drewN {w : World} {p : Nat} {cs : Array Value} {t : Nat} (h : Lies w p cs t) (n : Nat) : Lies (w.drewN n) p cs t := ⟨h.out⟩

/-- Nothing has turned but some blocks; more may be there. -/
structure Chg (F : Nat → Prop) (w w' : World) : Prop where
  os : w'.os = w.os
  tape : w'.tape = w.tape
  output : w'.output = w.output
  size : w.heap.size ≤ w'.heap.size
  block : ∀ i, i < w.heap.size → ¬ F i → w'.heap[i]? = w.heap[i]?
theorem Ext.chg {w w' : World} (h : Ext w w') (F : Nat → Prop) : Chg F w w' := ⟨h.out.os, h.out.tape, h.out.output, h.out.size, fun i hi _ => h.out.block i hi⟩
theorem Chg.refl (F : Nat → Prop) (w : World) : Chg F w w := (Ext.refl w).chg F
theorem Chg.mono {F G : Nat → Prop} {w w' : World} (h : Chg F w w') (hs : ∀ i, i < w.heap.size → F i → G i) : Chg G w w' :=
  ⟨h.os, h.tape, h.output, h.size, fun i hi hn => h.block i hi (fun hf => hn (hs i hi hf))⟩
/-- What the second step changes was changed before, or is new. -/
theorem Chg.trans {F G : Nat → Prop} {a b c : World} (h : Chg F a b) (k : Chg G b c) (hs : ∀ i, i < a.heap.size → G i → F i) : Chg F a c :=
  ⟨k.os.trans h.os, k.tape.trans h.tape, k.output.trans h.output, Nat.le_trans h.size k.size, fun i hi hn => (k.block i (Nat.lt_of_lt_of_le hi h.size) (fun hg => hn (hs i hi hg))).trans (h.block i hi hn)⟩
theorem Chg.ext {F : Nat → Prop} {a b c : World} (h : Chg F a b) (k : Ext b c) : Chg F a c := h.trans (k.chg F) (fun _ _ h => h)
theorem Chg.alloc {F : Nat → Prop} {a b : World} (h : Chg F a b) (o : Obj) : Chg F a (b.alloc o) := h.ext ((Ext.refl b).alloc o)
theorem Chg.set {F : Nat → Prop} {a b : World} (h : Chg F a b) (p i : Nat) (hp : F p ∨ a.heap.size ≤ p) (v : Value) : Chg F a (b.setCell ⟨p, i, none⟩ v) := by
  refine ⟨h.os, h.tape, h.output, ?_, fun j hj hn => ?_⟩
  · have : (b.setCell ⟨p, i, none⟩ v).heap.size = b.heap.size := by unfold World.setCell; simp
    rw [this]; exact h.size
  · rw [Below.heap_setCell]
    · exact h.block j hj hn
    · rintro rfl
      rcases hp with hp | hp
      · exact hn hp
      · exact absurd hj (Nat.not_lt.2 hp)
theorem Chg.low {F : Nat → Prop} {w w' : World} (h : Chg F w w') (hs : ∀ i, i < w.heap.size → ¬ F i) : Ext w w' :=
  ⟨⟨h.os, h.tape, h.output, h.size, fun i hi => h.block i hi (hs i hi)⟩⟩
theorem Chg.cell {F : Nat → Prop} {w w' : World} (h : Chg F w w') {a : Addr} {v : Value} (ha : ¬ F a.block) (hc : w.cell? a = some v) : w'.cell? a = some v := by
  have hb := h.block a.block (World.block_lt_of_cell? w a hc) ha
  unfold World.cell? at *
  rw [hb]; exact hc
theorem Lies.chg {F : Nat → Prop} {w w' : World} {p : Nat} {cs : Array Value} {t : Nat} (h : Lies w p cs t) (hc : Chg F w w') (hp : ¬ F p) : Lies w' p cs t := ⟨(hc.block p h.lt hp).trans h.out⟩
theorem Lies.ext {w w' : World} {p : Nat} {cs : Array Value} {t : Nat} (h : Lies w p cs t) (hc : Ext w w') : Lies w' p cs t := ⟨(hc.out.block p h.lt).trans h.out⟩
theorem add_block (ad : Addr) (i : Nat) : (ad.add i).block = ad.block := by unfold Addr.add; split <;> rfl
theorem RdK.chg {F : Nat → Prop} {q : IntKind} {w w' : World} {A : Option Addr} {xs : List Int} (h : RdK q w A xs) (hc : Chg F w w') (hp : ∀ ad, A = some ad → 0 < xs.length → ¬ F ad.block) : RdK q w' A xs :=
  ⟨h.1, fun i hi => by
    obtain ⟨ad, e, hr⟩ := h.2 i hi
    exact ⟨ad, e, hc.cell (by rw [add_block]; exact hp ad e (by omega)) hr⟩⟩
theorem RdK.blk {q : IntKind} {w : World} {A : Option Addr} {xs : List Int} (h : RdK q w A xs) : ∀ ad, A = some ad → 0 < xs.length → ad.block < w.heap.size := by
  rintro ad rfl h0
  obtain ⟨ad', e, hc⟩ := h.2 0 h0
  injection e with e; subst e
  have := World.block_lt_of_cell? w _ hc
  rwa [add_block] at this
theorem Own.chg {F : Nat → Prop} {e : Nat} {q : IntKind} {b : Nat} {w w' : World} {v : Value} {xs : List Int} (h : Own e q b w v xs) (hc : Chg F w w') (hp : ∀ k, v.ownBlock = some k → ¬ F k) : Own e q b w' v xs := by
  obtain ⟨h1, h2⟩ := h
  refine ⟨h1, ?_⟩
  rcases h2 with h2 | ⟨g, cap, cur, rfl, r2, r3, r⟩
  · exact .inl h2
  · have hl : g < w.heap.size := by obtain ⟨h1, _⟩ := Array.getElem?_eq_some_iff.1 r3; exact h1
    exact .inr ⟨g, cap, cur, rfl, r2, (hc.block g hl (hp g rfl)).trans r3, r⟩
theorem Own.lt {e : Nat} {q : IntKind} {b : Nat} {w : World} {v : Value} {xs : List Int} (h : Own e q b w v xs) (k : Nat) (hk : v.ownBlock = some k) : b ≤ k ∧ k < w.heap.size := World.ownsRow.lt h k hk
/-- A row's address lies in its block. -/
theorem Own.blk {e : Nat} {q : IntKind} {b : Nat} {w : World} {A : Option Addr} {n c : Nat} {xs : List Int} (h : Own e q b w (.slice A n c) xs) : ∀ ad, A = some ad → b ≤ ad.block ∧ ad.block < w.heap.size ∧ (Value.slice A n c).ownBlock = some ad.block := by
  rintro ad rfl
  rcases h.2 with ⟨h1, _⟩ | ⟨g, cap, cur, he, hb, hg, _⟩
  · injection h1 with h1; cases h1
  · injection he with he; injection he with he; subst he
    obtain ⟨hl, _⟩ := Array.getElem?_eq_some_iff.1 hg
    exact ⟨hb, hl, rfl⟩
theorem grownBy_chg {w w' : World} {row : Option Nat} (h : w.grownBy w' row) : Chg (fun i => row = some i) w w' :=
  ⟨h.os, h.tape, h.output, h.size, fun i hi hn => h.block i hi (Ne.symm hn)⟩
/-- A literal that has just been made is a row of the call's own. -/
theorem Own.lit1 (e : Nat) (q : IntKind) (b : Nat) (w : World) (hb : b ≤ w.heap.size) (n : Nat) (hn : n = w.heap.size) (a : Int) : Own e q b (w.alloc (.cells #[.int q a] e)) (.slice (some ⟨n, 0, none⟩) 1 1) [a] := by
  subst hn
  exact ⟨by simp, .inr ⟨w.heap.size, 1, #[.int q a], rfl, hb, heap_alloc_new w _, Nat.le_refl _, by simp [maxLen], by simp, by simp⟩⟩
section
variable {P : Program} {ops : Array Oper} {rest : List Oper} {a : Act} {Q : Exit → Act → World → Prop}
/-- append(v, x), v a row of whole numbers that lies from a block on; x lies in a block of one cell that has just been made. -/
theorem app_oneB {b : Nat} {W : World} {dst : Option Tmp} {s x : Operand} {t ty : TypeId} {pos : String} {after : Array Edge} {N : Nat} {y : Int} {e : TypeId} {q : IntKind} (bytes : Nat)
    (ht : P.underlying t = some (.slice e)) (hinfo : (P.info? e).map (fun i => (i.zero, i.size, i.bytes)) = some (some (.int q 0), 1, bytes)) (hb0 : 0 < bytes)
    (v : Value) (xs : List Int) (hN : N = W.heap.size) (hs : a.eval s = v) (hx : a.eval x = .slice (some ⟨N, 0, none⟩) 1 1)
    (HO : Own e q b W v xs) (HB : b ≤ W.heap.size) (hlen : (xs.length + 1) * bytes ≤ 140737488355328)
    (h : ∀ v1 w1, Own e q b w1 v1 (xs ++ [y]) → Chg (fun i => v.ownBlock = some i) W w1 → (∀ k, v1.ownBlock = some k → v.ownBlock = some k ∨ W.heap.size ≤ k) → wpList P ops Q rest (a.put dst v1) w1) :
    wpList P ops Q (appOp dst s x t ty pos after :: rest) a (W.alloc (.cells #[.int q y] e)) := by
  subst hN
  have hz : (W.alloc (.cells #[.int q y] e)).heap.size = W.heap.size + 1 := by simp
  refine app_cells rfl s x t e (.int q 0) 1 bytes rfl ht hinfo rfl (by decide) hb0 b v xs.length (xs.map (Value.int q)) hs (HO.ext ((Ext.refl _).alloc _)) (some ⟨W.heap.size, 0, none⟩) 1 1 [.int q y] hx rfl (fun hn => by simp at hn)
    (fun ad hn j u hu => ?_) (fun u hu => ?_) hlen (by omega) ?_
  · injection hn with hn; subst hn; rw [cell_new]; simpa using hu
  · simp at hu; subst hu; rfl
  · intro v1 w1 h2 h3 h4
    refine h v1 w1 ?_ (((Ext.refl W).alloc _).chg _ |>.trans (grownBy_chg h3) (fun _ _ h => h)) (fun k hk => ?_)
    · simpa [Own] using h2
    · rcases h4 with h4 | h4
      · exact .inl (h4 ▸ hk)
      · rw [h4] at hk; injection hk with hk; right; omega
/-- append(v, ys...), both of whole numbers, v lies from a block on. -/
theorem app_rowB {b : Nat} {W : World} {dst : Option Tmp} {s x : Operand} {t ty : TypeId} {pos : String} {after : Array Edge} {e : TypeId} {q : IntKind} (bytes : Nat)
    (ht : P.underlying t = some (.slice e)) (hinfo : (P.info? e).map (fun i => (i.zero, i.size, i.bytes)) = some (some (.int q 0), 1, bytes)) (hb0 : 0 < bytes)
    (v : Value) (xs ys : List Int) (A : Option Addr) (c : Nat) (hs : a.eval s = v) (hx : a.eval x = .slice A ys.length c)
    (HO : Own e q b W v xs) (HB : b ≤ W.heap.size) (HR : RdK q W A ys) (hlen : (xs.length + ys.length) * bytes ≤ 140737488355328)
    (h : ∀ v1 w1, Own e q b w1 v1 (xs ++ ys) → Chg (fun i => v.ownBlock = some i) W w1 → (∀ k, v1.ownBlock = some k → v.ownBlock = some k ∨ W.heap.size ≤ k) → wpList P ops Q rest (a.put dst v1) w1) :
    wpList P ops Q (appOp dst s x t ty pos after :: rest) a W := by
  refine app_cells rfl s x t e (.int q 0) 1 bytes rfl ht hinfo rfl (by decide) hb0 b v xs.length (xs.map (Value.int q)) hs HO A ys.length c (ys.map (Value.int q)) hx (by simp) (fun hn => ?_)
    (fun ad hn j u hu => ?_) (fun u hu => ?_) hlen HB ?_
  · rcases Nat.eq_zero_or_pos ys.length with h0 | h0
    · exact h0
    · obtain ⟨ad, e1, _⟩ := HR.2 0 h0; rw [hn] at e1; cases e1
  · rw [List.getElem?_map] at hu
    obtain ⟨y, hy, rfl⟩ := Option.map_eq_some_iff.1 hu
    obtain ⟨hj, rfl⟩ := List.getElem?_eq_some_iff.1 hy
    obtain ⟨ad', e1, hc⟩ := HR.2 j hj
    rw [hn] at e1; injection e1 with e1; subst e1
    rw [hc, nth_get _ _ hj]
  · simp at hu; obtain ⟨y, _, rfl⟩ := hu; rfl
  · intro v1 w1 h2 h3 h4
    refine h v1 w1 ?_ (grownBy_chg h3) (fun k hk => ?_)
    · simpa [Own] using h2
    · rcases h4 with h4 | h4
      · exact .inl (h4 ▸ hk)
      · rw [h4] at hk; injection hk with hk; right; omega
end
/-- An element, itself of several cells, of an array by value. -/
theorem run_index_agg {P : Program} (w : World) (t e : TypeId) (n sz : Nat) (d : TypeDesc) (ht : P.underlying t = some (.array n e)) (he : P.underlying e = some d)
    (hd : (match d with | .struct _ | .array _ _ => true | _ => false) = true) (hs : (P.info? e).map (·.size) = some sz) (cs vs : Array Value) (k : IntKind) (i : Nat) (hi : i < n) (hv : vs.size = sz)
    (h : ∀ j, j < sz → cs[i * sz + j]? = vs[j]?) : (Instr.index t (.agg cs) (.int k (i : Int))).run P w = .ok (.agg vs) w := by
  have hagg : (isAgg e).run P w = .ok true w := by
    unfold isAgg
    rw [Sem.run_bind, run_underlying he w]
    cases d <;> simp_all
  have hext : cs.extract (i * sz) (i * sz + sz) = vs := by
    apply Array.ext_getElem?
    intro j
    rw [Array.getElem?_extract]
    by_cases hj : j < sz
    · rw [if_pos, h j hj]
      have : cs[i * sz + j]? = some (vs[j]'(by omega)) := by rw [h j hj]; exact Array.getElem?_eq_getElem _
      obtain ⟨h1, _⟩ := Array.getElem?_eq_some_iff.1 this
      omega
    · rw [if_neg (by omega), Array.getElem?_eq_none (by omega)]
  cases hq : P.info? e with
  | none => simp [hq] at hs
  | some inf =>
    have hs2 : inf.size = sz := by simpa [hq] using hs
    have h3 : (0 : Int) ≤ (i : Int) ∧ (i : Int) < (n : Int) := by omega
    simp [Instr.index, asIntOf, Sem.run_bind, run_underlying ht w, part, hagg, sizeOf, typeInfo, hq, hs2, h3, hext]
    omega
end Go.Proofs.Ytmgckodihnmjoaa
