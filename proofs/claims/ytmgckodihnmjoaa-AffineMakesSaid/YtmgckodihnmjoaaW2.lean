/-
  Words for slices that a call makes: rows of its own, appends onto them. Conditions: none.
-/
import Derived.Test.YtmgckodihnmjoaaW
import Derived.Maps.AppendAt
import Derived.Deep.AppendLies
import Derived.Laws.OwnMore
set_option linter.unusedVariables false
set_option linter.unusedSimpArgs false
namespace Go.Proofs.Ytmgckodihnmjoaa
open Go.RowKit

theorem Ext.grown {w w1 w2 : World} (h : Ext w w1) {row : Option Nat} (hg : w1.grownBy w2 row) (hr : ∀ k, row = some k → w.heap.size ≤ k) : Ext w w2 :=
  ⟨h.out.grown hg h.out.size hr⟩
theorem grownBy_ext {w w1 : World} (h : Ext w w1) (row : Option Nat) : w.grownBy w1 row := ⟨h.out.os, h.out.tape, h.out.output, h.out.size, fun i hi _ => h.out.block i hi⟩
theorem own_ext {w w1 : World} {base e size n : Nat} {v : Value} {xs : List Value} (h : w.ownsRow base e size v n xs) (hx : Ext w w1) : w1.ownsRow base e size v n xs :=
  h.kept (grownBy_ext hx none) (by cases v.ownBlock <;> simp)
theorem own_lower {w : World} {base b' e size n : Nat} {v : Value} {xs : List Value} (h : w.ownsRow base e size v n xs) (hb : b' ≤ base) : w.ownsRow b' e size v n xs := by
  obtain ⟨h1, h2⟩ := h
  refine ⟨h1, ?_⟩
  rcases h2 with h2 | ⟨g, cap, cur, r1, r2, r⟩
  · exact .inl h2
  · exact .inr ⟨g, cap, cur, r1, by omega, r⟩
theorem own_from {w : World} {base e size n : Nat} {v : Value} {xs : List Value} (h : w.ownsRow base e size v n xs) : ∀ k, v.ownBlock = some k → base ≤ k := fun k hk => (h.lt k hk).1

/-- A row of the call's own, of whole numbers. -/
def Own (e : Nat) (q : IntKind) (base : Nat) (w : World) (v : Value) (xs : List Int) : Prop := w.ownsRow base e 1 v xs.length (xs.map (Value.int q))
theorem Own.ext {e : Nat} {q : IntKind} {b : Nat} {w w1 : World} {v : Value} {xs : List Int} (h : Own e q b w v xs) (hx : Ext w w1) : Own e q b w1 v xs := own_ext h hx
theorem Own.lower {e : Nat} {q : IntKind} {b b' : Nat} {w : World} {v : Value} {xs : List Int} (h : Own e q b w v xs) (hb : b' ≤ b) : Own e q b' w v xs := own_lower h hb
theorem Own.from_ {e : Nat} {q : IntKind} {b : Nat} {w : World} {v : Value} {xs : List Int} (h : Own e q b w v xs) : ∀ k, v.ownBlock = some k → b ≤ k := own_from h
theorem Own.nil (e : Nat) (q : IntKind) (b : Nat) (w : World) : Own e q b w (.slice none 0 0) [] := World.ownsRow_nil w b e 1
theorem Own.made0 (e : Nat) (q : IntKind) (b : Nat) (w : World) (hb : b ≤ w.heap.size) (n : Nat) (hn : n = w.heap.size) : Own e q b (w.alloc (.cells #[] e)) (.slice (some ⟨n, 0, none⟩) 0 0) [] := by
  subst hn
  exact ⟨by simp, .inr ⟨w.heap.size, 0, #[], rfl, hb, heap_alloc_new w _, Nat.le_refl _, by simp [maxLen], by simp, by simp⟩⟩
/-- What is owned is a slice that can be read. -/
theorem Own.read {e : Nat} {q : IntKind} {b : Nat} {w : World} {v : Value} {xs : List Int} (h : Own e q b w v xs) : ∃ A c, v = .slice A xs.length c ∧ RdK q w A xs ∧ (A = none → xs = []) := by
  rcases Nat.eq_zero_or_pos xs.length with h0 | h0
  · have hx : xs = [] := List.eq_nil_of_length_eq_zero h0
    subst hx
    rcases h.2 with ⟨rfl, _⟩ | ⟨g, cap, cur, rfl, _⟩
    · exact ⟨none, 0, rfl, ⟨by simp, fun i hi => by simp at hi⟩, fun _ => rfl⟩
    · exact ⟨_, cap, rfl, ⟨by simp, fun i hi => by simp at hi⟩, fun _ => rfl⟩
  · have hm : xs.length ≤ 9223372036854775807 := by
      rcases h.2 with ⟨_, h1⟩ | ⟨g', cap', cur, he, _, _, h1, h2, _⟩
      · omega
      · simp only [maxLen] at h2; omega
    obtain ⟨g, cap, rfl, _, _⟩ := World.ownsRow.form h h0
    refine ⟨_, cap, rfl, ⟨hm, fun i hi => ⟨_, rfl, World.ownsRow.cells h (g := g) rfl i _ ?_⟩⟩, fun hn => by simp at hn⟩
    rw [List.getElem?_map, List.getElem?_eq_getElem hi, nth_get _ _ hi]; rfl

theorem Own.cap {e : Nat} {q : IntKind} {b : Nat} {w : World} {A : Option Addr} {n c : Nat} {xs : List Int} (h : Own e q b w (.slice A n c) xs) : xs.length ≤ c := by
  rcases h.2 with ⟨h1, h2⟩ | ⟨g, cap, cur, he, _, _, h1, _⟩
  · omega
  · injection he with e1 e2 e3; omega

/-- A store into a row of the call's own. -/
theorem Own.form {e : Nat} {q : IntKind} {b : Nat} {w : World} {v : Value} {xs : List Int} (h : Own e q b w v xs) (h0 : 0 < xs.length) :
    ∃ g c cur, v = .slice (some ⟨g, 0, none⟩) xs.length c ∧ b ≤ g ∧ w.heap[g]? = some (.cells cur e (0, 0)) ∧ xs.length ≤ c ∧ c ≤ maxLen ∧ cur.size = c ∧ cur.toList.take xs.length = xs.map (Value.int q) := by
  rcases h.2 with ⟨_, h1⟩ | ⟨g, cap, cur, he, h1, h2, h3, h4, h5, h6⟩
  · omega
  · exact ⟨g, cap, cur, he, h1, h2, h3, h4, by simpa using h5, by simpa using h6⟩
theorem Own.at_ {e : Nat} {q : IntKind} {b : Nat} {w : World} {g n c : Nat} {xs : List Int} (h : Own e q b w (.slice (some ⟨g, 0, none⟩) n c) xs) (i : Nat) (hi : i < xs.length) :
    w.cell? ⟨g, i, none⟩ = some (.int q (nth xs i)) ∧ w.frozen? ⟨g, i, none⟩ = false := by
  obtain ⟨g', c', cur, hv, _, hg, hc, _, hs, ht⟩ := h.form (by omega)
  injection hv with hv1 hv2 hv3
  injection hv1 with hv1; injection hv1 with hv1
  subst hv1
  constructor
  · have : cur.toList[i]? = some (.int q (nth xs i)) := by
      have h2 : (cur.toList.take xs.length)[i]? = (xs.map (Value.int q))[i]? := by rw [ht]
      rw [List.getElem?_take, if_pos hi, List.getElem?_map, List.getElem?_eq_getElem hi] at h2
      rw [h2, nth_get _ _ hi]; rfl
    unfold World.cell?
    simp only [hg]
    simpa using this
  · unfold World.frozen?
    simp only [hg]
    simp
theorem Own.set {e : Nat} {q : IntKind} {b : Nat} {w : World} {g n c : Nat} {xs : List Int} (h : Own e q b w (.slice (some ⟨g, 0, none⟩) n c) xs) (i : Nat) (hi : i < xs.length) (y : Int) :
    Own e q b (w.setCell ⟨g, i, none⟩ (.int q y)) (.slice (some ⟨g, 0, none⟩) n c) (xs.set i y) := by
  obtain ⟨g', c', cur, hv, hb, hg, hc, hm, hs, ht⟩ := h.form (by omega)
  injection hv with hv1 hv2 hv3
  injection hv1 with hv1; injection hv1 with hv1
  subst hv1; subst hv2; subst hv3
  refine ⟨by simp, .inr ⟨g, c, cur.setIfInBounds i (.int q y), by simp, hb, ?_, by simpa using hc, hm, by simpa using hs, ?_⟩⟩
  · unfold World.setCell
    simp only [Array.getElem?_modify]
    rw [hg]; simp
  · simp only [Array.toList_setIfInBounds, List.length_set, Nat.mul_one]
    rw [List.take_set, ht, List.map_set]
theorem Own.ge {e : Nat} {q : IntKind} {b : Nat} {w : World} {g n c : Nat} {xs : List Int} (h : Own e q b w (.slice (some ⟨g, 0, none⟩) n c) xs) : b ≤ g := h.from_ g rfl

section
variable {P : Program} {ops : Array Oper} {rest : List Oper} {o : Oper} {a : Act} {Q : Exit → Act → World → Prop}

/-- append(v, nil...) is v. -/
theorem run_append_none (t ty e : TypeId) (i : TypeInfo) (ht : P.underlying t = some (.slice e)) (hi : P.info? e = some i) (w : World) (base size n : Nat) (v : Value) (xs : List Value) (hown : w.ownsRow base e size v n xs) (c : Nat) :
    (Builtin.append_ #[t, t] ty #[v, .slice none 0 c]).run P w = .ok v w := by
  rcases hown.2 with ⟨rfl, rfl⟩ | ⟨g, cap, cur, rfl, hbg, hg, hnc, hcm, hcs, htake⟩
  · simp [Builtin.append_, run_underlying ht, sizeOf, typeInfo, hi, Builtin.lenOf, Builtin.firstCells]
  · simp [Builtin.append_, run_underlying ht, sizeOf, typeInfo, hi, Builtin.lenOf, Builtin.firstCells, hnc, storeCells]

/-- append(v, ys...), v a row of the call's own, ys any slice whose cells can be read. -/
theorem app_cells {W : World} (hgd : o.guard = none) (s x : Operand) (t e : TypeId) (z : Value) (size bytes : Nat)
    (ho : o.op = .call { callee := .builtin .append, args := #[s, x], argTypes := #[t, t] })
    (ht : P.underlying t = some (.slice e)) (hinfo : (P.info? e).map (fun i => (i.zero, i.size, i.bytes)) = some (some z, size, bytes)) (hz : z.cells.size = size) (hs0 : 0 < size) (hb0 : 0 < bytes)
    (base : Nat) (v : Value) (n : Nat) (xs : List Value) (hs : a.eval s = v) (HO : W.ownsRow base e size v n xs)
    (A : Option Addr) (m c : Nat) (news : List Value) (hx : a.eval x = .slice A m c) (hl : news.length = m * size) (hA : A = none → m = 0)
    (hnews : ∀ ad, A = some ad → ∀ j u, news[j]? = some u → W.cell? (ad.add j) = some u) (h1 : ∀ u ∈ news, u.oneCell' = true)
    (hlen : (n + m) * bytes ≤ 140737488355328) (hbase : base ≤ W.heap.size)
    (h : ∀ v1 w1, w1.ownsRow base e size v1 (n + m) (xs ++ news) → W.grownBy w1 v.ownBlock → (v1.ownBlock = v.ownBlock ∨ v1.ownBlock = some W.heap.size) → wpList P ops Q rest (a.put o.dst v1) w1) :
    wpList P ops Q (o :: rest) a W := by
  obtain ⟨i0, hi, hzz⟩ := Option.map_eq_some_iff.1 hinfo
  simp only [Prod.mk.injEq] at hzz
  obtain ⟨hz0, hz1, hz2⟩ := hzz
  have hnm : n + m ≤ 140737488355328 := Nat.le_trans (Nat.le_mul_of_pos_right _ hb0) hlen
  cases A with
  | none =>
    obtain rfl := hA rfl
    have hn : news = [] := List.eq_nil_of_length_eq_zero (by simpa using hl)
    subst hn
    have hr := run_append_none (P := P) t o.type e i0 ht hi W base size n v xs HO c
    refine wpList_plain hgd fun K hK => ?_
    unfold Oper.wp execOp
    simp only [ho, resolve, invoke, builtin, Sem.run_bind, Sem.run_pure, Result.andThen_ok, List.map_toArray, List.map_cons, List.map_nil, hs, hx, hr]
    exact hK _ _ (h v W (by simpa using HO) (World.grownBy.refl _ _) (.inl rfl))
  | some ad =>
    exact wpList_append_own_at W hgd s x t ho base e i0 z size bytes ht hi hz0 hz1 hz2 hz hs0 v n xs hs HO ad m c news hx hl (hnews ad rfl) h1 (by simp only [maxLen]; omega) hlen hbase
      (fun v1 w1 h2 h3 _ h5 => h v1 w1 h2 h3 h5)

/-- An append as the walk meets it. -/
abbrev appOp (dst : Option Tmp) (s x : Operand) (t ty : TypeId) (pos : String) (after : Array Edge) : Oper :=
  { dst := dst, op := .call { callee := .builtin .append, args := #[s, x], argTypes := #[t, t] }, type := ty, pos := pos, after := after, guard := none }

/-- append(v, x), v a row of whole numbers; x lies in a block of one cell that has just been made. -/
theorem app_one {w0 W : World} {dst : Option Tmp} {s x : Operand} {t ty : TypeId} {pos : String} {after : Array Edge} {N : Nat} {y : Int} {e : TypeId} {q : IntKind} (bytes : Nat)
    (ht : P.underlying t = some (.slice e)) (hinfo : (P.info? e).map (fun i => (i.zero, i.size, i.bytes)) = some (some (.int q 0), 1, bytes)) (hb0 : 0 < bytes)
    (v : Value) (xs : List Int) (hN : N = W.heap.size) (hs : a.eval s = v) (hx : a.eval x = .slice (some ⟨N, 0, none⟩) 1 1)
    (HO : Own e q w0.heap.size W v xs) (HX : Ext w0 W) (hlen : (xs.length + 1) * bytes ≤ 140737488355328)
    (h : ∀ v1 w1, Own e q w0.heap.size w1 v1 (xs ++ [y]) → Ext w0 w1 → wpList P ops Q rest (a.put dst v1) w1) :
    wpList P ops Q (appOp dst s x t ty pos after :: rest) a (W.alloc (.cells #[.int q y] e)) := by
  subst hN
  refine app_cells rfl s x t e (.int q 0) 1 bytes rfl ht hinfo rfl (by decide) hb0 w0.heap.size v xs.length (xs.map (Value.int q)) hs (HO.ext ((Ext.refl _).alloc _)) (some ⟨W.heap.size, 0, none⟩) 1 1 [.int q y] hx rfl (fun hn => by simp at hn)
    (fun ad hn j u hu => ?_) (fun u hu => ?_) hlen (by have := HX.size; simp; omega) ?_
  · injection hn with hn; subst hn; rw [cell_new]; simpa using hu
  · simp at hu; subst hu; rfl
  · intro v1 w1 h2 h3 _
    refine h v1 w1 ?_ ((HX.alloc _).grown h3 HO.from_)
    simpa [Own] using h2

/-- append(v, ys...), both of whole numbers. -/
theorem app_row {w0 W : World} {dst : Option Tmp} {s x : Operand} {t ty : TypeId} {pos : String} {after : Array Edge} {e : TypeId} {q : IntKind} (bytes : Nat)
    (ht : P.underlying t = some (.slice e)) (hinfo : (P.info? e).map (fun i => (i.zero, i.size, i.bytes)) = some (some (.int q 0), 1, bytes)) (hb0 : 0 < bytes)
    (v : Value) (xs ys : List Int) (A : Option Addr) (c : Nat) (hs : a.eval s = v) (hx : a.eval x = .slice A ys.length c)
    (HO : Own e q w0.heap.size W v xs) (HX : Ext w0 W) (HR : RdK q W A ys) (hlen : (xs.length + ys.length) * bytes ≤ 140737488355328)
    (h : ∀ v1 w1, Own e q w0.heap.size w1 v1 (xs ++ ys) → Ext w0 w1 → wpList P ops Q rest (a.put dst v1) w1) :
    wpList P ops Q (appOp dst s x t ty pos after :: rest) a W := by
  refine app_cells rfl s x t e (.int q 0) 1 bytes rfl ht hinfo rfl (by decide) hb0 w0.heap.size v xs.length (xs.map (Value.int q)) hs HO A ys.length c (ys.map (Value.int q)) hx (by simp) (fun hn => ?_)
    (fun ad hn j u hu => ?_) (fun u hu => ?_) hlen HX.size ?_
  · rcases Nat.eq_zero_or_pos ys.length with h0 | h0
    · exact h0
    · obtain ⟨ad, e1, _⟩ := HR.2 0 h0; rw [hn] at e1; cases e1
  · rw [List.getElem?_map] at hu
    obtain ⟨y, hy, rfl⟩ := Option.map_eq_some_iff.1 hu
    obtain ⟨hj, rfl⟩ := List.getElem?_eq_some_iff.1 hy
    obtain ⟨ad', e1, hc⟩ := HR.2 j hj
    rw [hn] at e1; injection e1 with e1; subst e1
    rw [hc, nth_get _ _ hj]
  · simp at hu; obtain ⟨y, _, rfl⟩ := hu; rfl
  · intro v1 w1 h2 h3 _
    refine h v1 w1 ?_ (HX.grown h3 HO.from_)
    simpa [Own] using h2
end
end Go.Proofs.Ytmgckodihnmjoaa
