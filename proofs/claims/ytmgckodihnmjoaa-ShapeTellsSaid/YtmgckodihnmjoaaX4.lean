/-
  The reckoner: what any operation yields that changes nothing. Conditions: none.
-/
import Derived.Test.YtmgckodihnmjoaaX3
set_option linter.unusedVariables false
set_option linter.unusedSimpArgs false
set_option maxRecDepth 20000
namespace Go.Proofs.Ytmgckodihnmjoaa
open Go.RowKit

section
variable {E : Env} {k B : Nat} {s s' : Slots} {h h' : Hp} {Q Q' : Post} {U : Nat → Prop} {m : Nat → Option Nat} {a : Act} {w w' : World} {o : Oper} {v : V} {d n : Nat} {t u e : TypeId} {td ed : TypeDesc} {tz tb ez eb : Nat} {tr er : Option Value} {x y : Operand} {ρ : Bool} {ops : Array Oper} {rest : List Oper}

/-- An address of an element's cell. -/
theorem SR.evEl (r : SR k B U m s h a w) {x : Operand} {e id i j : Nat} (hv : evO s x = some (.el e id i j)) : ∃ b, m id = some b ∧ a.eval x = .pointer (some ⟨b, i * e + j, none⟩) ∧ id < h.n := by
  have h1 := r.opnd hv
  generalize a.eval x = y at h1
  cases h1 with | el h2 h3 => exact ⟨_, h3, rfl, h2⟩
theorem Yl.loadE {e id i j n : Nat} {f : Nat → List D} {l : List D} (ho : o.op = .load t x) (ht : lk E.tab t = some ⟨td, tz, tb, tr⟩) (hx : evO s x = some (.el e id i j)) (hb : lk h.b id = some (some (.rows n e f))) (hi : i < n)
    (hl : ((f i).drop j).take (bif aggD td then tz else 1) = l) (hz : Nat.beq l.length (bif aggD td then tz else 1) = true) : Yl true E k B s h o (mk (aggD td) (l.map .d)) := fun U m a w r => by
  obtain ⟨b, h1, h2, h3⟩ := r.evEl hx
  obtain ⟨_, hbr⟩ := r.heap.live id _ hb
  rw [h1] at hbr
  cases hbr with | rows hlen hbr =>
  obtain ⟨arr, et, g1, g2, g3⟩ := hbr
  have hz' := Nat.eq_of_beq_eq_true hz
  have hin : ∀ p, p < l.length → ∃ c rv, l[p]? = some c ∧ arr[i * e + j + p]? = some rv ∧ DR U w c rv := fun p hp => by
    have e1 := List.getElem?_eq_getElem hp
    have e2 := take_get hl e1
    have hr : j + p < e := by rw [← hlen i hi]; exact (List.getElem?_eq_some_iff.1 e2).1
    have e2' : (flatN n f)[i * e + j + p]? = some l[p] := by rw [Nat.add_assoc, flatN_get hlen hi hr]; exact e2
    have e3 : i * e + j + p < arr.size := Nat.lt_of_lt_of_le (List.getElem?_eq_some_iff.1 e2').1 g2
    exact ⟨_, _, e1, Array.getElem?_eq_getElem e3, g3 _ _ _ e2' (Array.getElem?_eq_getElem e3)⟩
  have hN : l.length = if aggD td = true then tz else 1 := by rw [hz']; cases aggD td <;> rfl
  refine ⟨_, mk_ok (f := fun p => arr.getD (i * e + j + p) undef) (by rw [List.length_map]; exact hN) (fun p c hc => ?_), fun w' hw => ?_⟩
  · rw [List.getElem?_map] at hc
    obtain ⟨c0, hc0, rfl⟩ := Option.map_eq_some_iff.1 hc
    obtain ⟨c', rv, e1, e2, e3⟩ := hin p (List.getElem?_eq_some_iff.1 hc0).1
    rw [hc0] at e1; injection e1 with e1; subst e1
    rw [Array.getD_eq_getD_getElem?, e2]; exact .d e3
  · have := run_var (P := E.P) (w := w') (t := t) (ad := ⟨b, i * e + j, none⟩) (f := fun p => arr.getD (i * e + j + p) undef) (isagg ht w') (szo ht w') (fun p hp => by
      obtain ⟨c', rv, e1, e2, e3⟩ := hin p (by rw [hN]; exact hp)
      rw [Addr.add_lit, cell_of_arr ((hw rfl).le g1), Array.getD_eq_getD_getElem?, e2]; rfl)
    simp only [execOp, ho, Instr.loadAt, h2, Instr.sureAddr, Sem.run_bind, Sem.run_pure, Result.andThen_ok, this]
theorem Yl.fieldAddrE {e id i0 j i : Nat} {fs : Array Field} {f : Field} {fd : TypeDesc} {fz fb : Nat} {fr : Option Value} (ho : o.op = .fieldAddr t x i) (ht : lk E.tab t = some ⟨td, tz, tb, tr⟩) (hd : td = .struct fs) (hf : fs[i]? = some f) (htf : lk E.tab f.type = some ⟨fd, fz, fb, fr⟩) (hz : Nat.beq fz 0 = false)
    (hx : evO s x = some (.el e id i0 j)) : Yl ρ E k B s h o (.el e id i0 (j + f.offset)) := fun U m a w r => by
  obtain ⟨b, h1, h2, h3⟩ := r.evEl hx
  refine ⟨_, .el h3 h1, fun w' _ => ?_⟩
  have hp := run_place (P := E.P) (w := w') (ad := ⟨b, i0 * e + j, none⟩) (szo htf w') (ne_of_beq hz)
  have hu := und ht w'
  rw [hd] at hu
  rw [Addr.add_lit] at hp
  simp [execOp, ho, Instr.fieldAt, h2, Instr.sureAddr, hu, hf, hp, Nat.add_assoc]
theorem Yl.indexE {id n : Nat} {q : IntKind} {i : Int} (ho : o.op = .indexAddr t x y) (ht : lk E.tab t = some ⟨td, tz, tb, tr⟩) (hd : td = .slice e) (hte : lk E.tab e = some ⟨ed, ez, eb, er⟩) (hx : evO s x = some (.sl ez id 0 n)) (hy : evO s y = some (.d (.int q i))) (h0 : 0 ≤ i) (h1 : i < n) : Yl ρ E k B s h o (.el ez id i.toNat 0) := fun U m a w r => by
  obtain ⟨rv, h2, h3⟩ := Yl.indexS (ρ := ρ) ho ht hd hte hx hy h0 h1 U m a w r
  refine ⟨rv, ?_, h3⟩
  cases h2 with | ptr g1 g2 =>
  have := VR.el (U := U) (w := w) (e := ez) (i := i.toNat) (j := 0) g1 g2
  simpa using this
noncomputable def loadX (tab : List (Nat × Ty)) (b : Heap) (t : Nat) (v : V) : Option (Bool × V) :=
  match lkr tab t with
  | some ty => match v with
    | .ptr id off => match lkr b id with
      | some (some (.cells cs)) => match dropN off cs with
        | some r => match takeN (nsize (aggD ty.d) ty.size) r with
          | some l => match mkV (aggD ty.d) l with | some v => some (true, v) | none => none
          | none => none
        | none => none
      | some (some (.dat cs)) => match dropN off cs with
        | some r => match takeN (nsize (aggD ty.d) ty.size) r with
          | some l => match mkV (aggD ty.d) (mapD l) with | some v => some (true, v) | none => none
          | none => none
        | none => none
      | _ => none
    | .el e id i j => match lkr b id with
      | some (some (.rows n e' f)) => match Nat.beq e e', dropN j (f i) with
        | true, some r => match takeN (nsize (aggD ty.d) ty.size) r with
          | some l => match mkV (aggD ty.d) (mapD l) with | some v => some (Nat.blt i n, v) | none => none
          | none => none
        | _, _ => none
      | _ => none
    | .d (.lptr cs) => match takeN (nsize (aggD ty.d) ty.size) cs with
      | some l => match mkV (aggD ty.d) (mapD l) with | some v => some (true, v) | none => none
      | none => none
    | _ => none
  | none => none
theorem loadX_ok {t : TypeId} {x : Operand} {u : V} {c : Bool} (ho : o.op = .load t x) (hx : evO s x = some u) (h1 : loadX E.tab h.b t u = some (c, v)) (hc : c = true) : Yl true E k B s h o v := by
  unfold loadX at h1
  rw [lkr_eq] at h1
  split at h1
  · rename_i ty ht
    obtain ⟨td, tz, tb, tr⟩ := ty
    dsimp only at h1
    split at h1
    · rw [lkr_eq] at h1
      split at h1
      · rename_i hb
        split at h1
        · rename_i r hr
          split at h1
          · rename_i l hl
            split at h1
            · rename_i v' hm
              injection h1 with h1; simp only [Prod.mk.injEq] at h1; obtain ⟨_, rfl⟩ := h1
              obtain ⟨e1, _⟩ := dropN_ok hr
              obtain ⟨e2, e3⟩ := takeN_ok hl
              rw [nsize_eq] at e2 e3
              rw [← mkV_ok hm]
              exact Yl.load ho ht hx hb (by rw [e1]; exact e2) (by rw [e3]; exact Nat.beq_refl _)
            · cases h1
          · cases h1
        · cases h1
      · rename_i hb
        split at h1
        · rename_i r hr
          split at h1
          · rename_i l hl
            split at h1
            · rename_i v' hm
              injection h1 with h1; simp only [Prod.mk.injEq] at h1; obtain ⟨_, rfl⟩ := h1
              obtain ⟨e1, _⟩ := dropN_ok hr
              obtain ⟨e2, e3⟩ := takeN_ok hl
              rw [nsize_eq] at e2 e3
              rw [← mkV_ok hm, mapD_eq]
              exact Yl.loadD ho ht hx hb (by rw [e1]; exact e2) (by rw [e3]; exact Nat.beq_refl _)
            · cases h1
          · cases h1
        · cases h1
      · cases h1
    · rw [lkr_eq] at h1
      split at h1
      · rename_i hb
        split at h1
        · rename_i r he hr
          split at h1
          · rename_i l hl
            split at h1
            · rename_i v' hm
              injection h1 with h1; simp only [Prod.mk.injEq] at h1; obtain ⟨h1, rfl⟩ := h1
              subst h1
              have he := Nat.eq_of_beq_eq_true he
              subst he
              obtain ⟨e1, _⟩ := dropN_ok hr
              obtain ⟨e2, e3⟩ := takeN_ok hl
              rw [nsize_eq] at e2 e3
              rw [← mkV_ok hm, mapD_eq]
              exact Yl.loadE ho ht hx hb (Nat.le_of_ble_eq_true hc) (by rw [e1]; exact e2) (by rw [e3]; exact Nat.beq_refl _)
            · cases h1
          · cases h1
        · cases h1
      · cases h1
    · split at h1
      · rename_i l hl
        split at h1
        · rename_i v' hm
          injection h1 with h1; simp only [Prod.mk.injEq] at h1; obtain ⟨_, rfl⟩ := h1
          obtain ⟨e2, e3⟩ := takeN_ok hl
          rw [nsize_eq] at e2 e3
          rw [← mkV_ok hm, mapD_eq]
          exact Yl.loadL ho ht hx e2 (by rw [e3]; exact Nat.beq_refl _)
        · cases h1
      · cases h1
    · cases h1
  · cases h1
/-- A field's offset, and whether it is made of several cells, and how many. -/
noncomputable def fieldI (tab : List (Nat × Ty)) (t i : Nat) : Option (Nat × Bool × Nat) :=
  match lkr tab t with
  | some ty => match fieldsOf ty.d with
    | some fs => match getN fs i with
      | some f => match lkr tab f.type with
        | some tf => some (f.offset, aggD tf.d, tf.size)
        | none => none
      | none => none
    | none => none
  | none => none
theorem fieldI_ok {t i off z : Nat} {g : Bool} (h1 : fieldI E.tab t i = some (off, g, z)) : ∃ td tz tb tr fs f fd fb fr, lk E.tab t = some ⟨td, tz, tb, tr⟩ ∧ td = .struct fs ∧ fs[i]? = some f ∧ lk E.tab f.type = some ⟨fd, z, fb, fr⟩ ∧ f.offset = off ∧ aggD fd = g := by
  unfold fieldI at h1
  rw [lkr_eq] at h1
  split at h1
  · rename_i ty ht
    split at h1
    · rename_i fs hfs
      obtain ⟨fa, e1, e2⟩ := fieldsOf_ok hfs
      split at h1
      · rename_i f hf
        rw [getN_eq] at hf
        have hf' : fa[i]? = some f := by rw [← Array.getElem?_toList, e2]; exact hf
        rw [lkr_eq] at h1
        split at h1
        · rename_i tf htf
          injection h1 with h1; simp only [Prod.mk.injEq] at h1; obtain ⟨g1, g2, g3⟩ := h1
          obtain ⟨td, tz, tb, tr⟩ := ty
          obtain ⟨fd, fz, fb, fr⟩ := tf
          dsimp only at *
          subst g3
          exact ⟨td, tz, tb, tr, fa, f, fd, fb, fr, ht, e1, hf', htf, g1, g2⟩
        · cases h1
      · cases h1
    · cases h1
  · cases h1
noncomputable def fieldAddrX (tab : List (Nat × Ty)) (t i : Nat) (v : V) : Option (Bool × V) :=
  match fieldI tab t i with
  | some (off, _, z) => match z with
    | 0 => none
    | _ + 1 => match v with
      | .ptr id o => some (true, .ptr id (o + off))
      | .el e id j r => some (true, .el e id j (r + off))
      | .d (.lptr cs) => match dropN off cs with
        | some r => some (true, .d (.lptr r))
        | none => none
      | _ => none
  | none => none
theorem fieldAddrX_ok {t : TypeId} {i : Nat} {x : Operand} {u : V} {c : Bool} (ho : o.op = .fieldAddr t x i) (hx : evO s x = some u) (h1 : fieldAddrX E.tab t i u = some (c, v)) : Yl ρ E k B s h o v := by
  unfold fieldAddrX at h1
  split at h1
  · rename_i off g z hf
    obtain ⟨td, tz, tb, tr, fs, f, fd, fb, fr, g1, g2, g3, g4, g5, g6⟩ := fieldI_ok hf
    subst g5
    split at h1
    · cases h1
    · have hz : Nat.beq (Nat.succ ‹Nat›) 0 = false := rfl
      split at h1
      · injection h1 with h1; simp only [Prod.mk.injEq] at h1; obtain ⟨_, rfl⟩ := h1
        exact Yl.fieldAddr ho g1 g2 g3 g4 hz hx
      · injection h1 with h1; simp only [Prod.mk.injEq] at h1; obtain ⟨_, rfl⟩ := h1
        exact Yl.fieldAddrE ho g1 g2 g3 g4 hz hx
      · split at h1
        · rename_i r hr
          injection h1 with h1; simp only [Prod.mk.injEq] at h1; obtain ⟨_, rfl⟩ := h1
          obtain ⟨e3, _⟩ := dropN_ok hr
          rw [← e3]
          exact Yl.fieldAddrL ho g1 g2 g3 g4 hz hx
        · cases h1
      · cases h1
  · cases h1
noncomputable def fieldX (tab : List (Nat × Ty)) (t i : Nat) (v : V) : Option (Bool × V) :=
  match fieldI tab t i with
  | some (off, g, z) => match nsize g z with
    | 0 => none
    | n + 1 => match v with
      | .agg cs => match dropN off cs with
        | some r => match takeN (n + 1) r with
          | some l => match mkV g l with | some v => some (true, v) | none => none
          | none => none
        | none => none
      | _ => none
  | none => none
theorem fieldX_ok {t : TypeId} {i : Nat} {x : Operand} {u : V} {c : Bool} (ho : o.op = .field t x i) (hx : evO s x = some u) (h1 : fieldX E.tab t i u = some (c, v)) : Yl ρ E k B s h o v := by
  unfold fieldX at h1
  split at h1
  · rename_i off g z hf
    obtain ⟨td, tz, tb, tr, fs, f, fd, fb, fr, g1, g2, g3, g4, g5, g6⟩ := fieldI_ok hf
    subst g5; subst g6
    split at h1
    · cases h1
    · rename_i n hn
      rw [nsize_eq] at hn
      split at h1
      · split at h1
        · rename_i r hr
          split at h1
          · rename_i l hl
            split at h1
            · rename_i v' hm
              injection h1 with h1; simp only [Prod.mk.injEq] at h1; obtain ⟨_, rfl⟩ := h1
              obtain ⟨e3, _⟩ := dropN_ok hr
              obtain ⟨e4, e5⟩ := takeN_ok hl
              have hn' : n + 1 = bif aggD fd then z else 1 := hn.symm
              rw [hn'] at e4 e5
              rw [← mkV_ok hm]
              exact Yl.field ho g1 g2 g3 g4 (by rw [hn]; rfl) hx (by rw [e3]; exact e4) (by rw [e5]; exact Nat.beq_refl _)
            · cases h1
          · cases h1
        · cases h1
      · cases h1
  · cases h1
/-- An array's length, and its elements' type, or a slice's elements' type. -/
def arrD : TypeDesc → Option (Nat × Nat)
  | .array n e => some (n, e)
  | _ => none
def slD : TypeDesc → Option Nat
  | .slice e => some e
  | _ => none
theorem arrD_ok {d : TypeDesc} {n e : Nat} (h : arrD d = some (n, e)) : d = .array n e := by cases d <;> simp [arrD] at h; obtain ⟨rfl, rfl⟩ := h; rfl
theorem slD_ok {d : TypeDesc} {e : Nat} (h : slD d = some e) : d = .slice e := by cases d <;> simp [slD] at h; subst h; rfl
noncomputable def arrI (tab : List (Nat × Ty)) (t : Nat) : Option (Nat × Bool × Nat) :=
  match lkr tab t with
  | some ty => match arrD ty.d with
    | some (n, e) => match lkr tab e with
      | some te => some (n, aggD te.d, te.size)
      | none => none
    | none => none
  | none => none
noncomputable def slI (tab : List (Nat × Ty)) (t : Nat) : Option Nat :=
  match lkr tab t with
  | some ty => match slD ty.d with
    | some e => match lkr tab e with
      | some te => some te.size
      | none => none
    | none => none
  | none => none
theorem arrI_ok {t n z : Nat} {g : Bool} (h1 : arrI E.tab t = some (n, g, z)) : ∃ td tz tb tr e ed eb er, lk E.tab t = some ⟨td, tz, tb, tr⟩ ∧ td = .array n e ∧ lk E.tab e = some ⟨ed, z, eb, er⟩ ∧ aggD ed = g := by
  unfold arrI at h1
  rw [lkr_eq] at h1
  split at h1
  · rename_i ty ht
    split at h1
    · rename_i hd
      have hd := arrD_ok hd
      rw [lkr_eq] at h1
      split at h1
      · rename_i te hte
        injection h1 with h1; simp only [Prod.mk.injEq] at h1; obtain ⟨g1, g2, g3⟩ := h1
        obtain ⟨td, tz, tb, tr⟩ := ty
        obtain ⟨ed, ez, eb, er⟩ := te
        dsimp only at *
        subst g1; subst g3
        exact ⟨td, tz, tb, tr, _, ed, eb, er, ht, hd, hte, g2⟩
      · cases h1
    · cases h1
  · cases h1
theorem slI_ok {t z : Nat} (h1 : slI E.tab t = some z) : ∃ td tz tb tr e ed eb er, lk E.tab t = some ⟨td, tz, tb, tr⟩ ∧ td = .slice e ∧ lk E.tab e = some ⟨ed, z, eb, er⟩ := by
  unfold slI at h1
  rw [lkr_eq] at h1
  split at h1
  · rename_i ty ht
    split at h1
    · rename_i hd
      have hd := slD_ok hd
      rw [lkr_eq] at h1
      split at h1
      · rename_i te hte
        injection h1 with h1
        obtain ⟨td, tz, tb, tr⟩ := ty
        obtain ⟨ed, ez, eb, er⟩ := te
        dsimp only at *
        subst h1
        exact ⟨td, tz, tb, tr, _, ed, eb, er, ht, hd, hte⟩
      · cases h1
    · cases h1
  · cases h1
def inI (i : Int) (n : Nat) : Bool := leZ 0 i && ltZ i n
theorem inI_ok {i : Int} {n : Nat} (h : inI i n = true) : 0 ≤ i ∧ i < n := by
  obtain ⟨h1, h2⟩ := and_split h; rw [leZ_eq] at h1; rw [ltZ_eq] at h2; exact ⟨of_decide_eq_true h1, of_decide_eq_true h2⟩
noncomputable def indexX (tab : List (Nat × Ty)) (t : Nat) (v y : V) : Option (Bool × V) :=
  match y with
  | .d (.int _ i) => match arrI tab t with
    | some (n, g, z) => match nsize g z with
      | 0 => none
      | q + 1 => match v with
        | .agg cs => match dropN (i.toNat * z) cs with
          | some r => match takeN (q + 1) r with
            | some l => match mkV g l with | some v => some (inI i n, v) | none => none
            | none => none
          | none => none
        | _ => none
    | none => none
  | _ => none
theorem indexX_ok {t : TypeId} {v1 v2 : V} {c : Bool} (ho : o.op = .index t x y) (hx : evO s x = some v1) (hy : evO s y = some v2) (h1 : indexX E.tab t v1 v2 = some (c, v)) (hc : c = true) : Yl ρ E k B s h o v := by
  unfold indexX at h1
  split at h1
  · split at h1
    · rename_i n g z hf
      obtain ⟨td, tz, tb, tr, e, ed, eb, er, g1, g2, g3, g4⟩ := arrI_ok hf
      subst g4
      split at h1
      · cases h1
      · rename_i q hn
        rw [nsize_eq] at hn
        split at h1
        · split at h1
          · rename_i r hr
            split at h1
            · rename_i l hl
              split at h1
              · rename_i v' hm
                injection h1 with h1; simp only [Prod.mk.injEq] at h1; obtain ⟨h1, rfl⟩ := h1
                subst h1
                obtain ⟨h2, h3⟩ := inI_ok hc
                obtain ⟨e3, _⟩ := dropN_ok hr
                obtain ⟨e4, e5⟩ := takeN_ok hl
                have hn' : q + 1 = bif aggD ed then z else 1 := hn.symm
                rw [hn'] at e4 e5
                rw [← mkV_ok hm]
                exact Yl.index ho g1 g2 g3 (by rw [hn]; rfl) hx hy h2 h3 (by rw [e3]; exact e4) (by rw [e5]; exact Nat.beq_refl _)
              · cases h1
            · cases h1
          · cases h1
        · cases h1
    · cases h1
  · cases h1
noncomputable def indexAddrX (tab : List (Nat × Ty)) (b : Heap) (t : Nat) (v y : V) : Option (Bool × V) :=
  match y with
  | .d (.int _ i) => match v with
    | .d (.rows n e f) => match slI tab t with
      | some z => match Nat.beq e z, z with
        | true, _ + 1 => some (inI i n, .d (.lptr (f i.toNat)))
        | _, _ => none
      | none => none
    | .d (.lst n cs) => match slI tab t with
      | some z => match z with
        | 0 => none
        | q + 1 => match dropN (i.toNat * (q + 1)) cs with
          | some r => match takeN (q + 1) r with
            | some l => some (inI i n, .d (.lptr l))
            | none => none
          | none => none
      | none => none
    | .sl e id off n => match slI tab t with
      | some z => match Nat.beq z e, off, lkr b id with
        | true, 0, some (some (.rows _ _ _)) => some (inI i n, .el z id i.toNat 0)
        | true, off, _ => some (inI i n, .ptr id (off + i.toNat * z))
        | _, _, _ => none
      | none => none
    | .ptr id off => match arrI tab t with
      | some (n, _, z) => some (inI i n, .ptr id (off + i.toNat * z))
      | none => none
    | .d (.lptr cs) => match arrI tab t with
      | some (n, _, z) => match dropN (i.toNat * z) cs with
        | some r => match takeN z r with
          | some l => some (inI i n, .d (.lptr l))
          | none => none
        | none => none
      | none => none
    | _ => none
  | _ => none
theorem indexAddrX_ok {t : TypeId} {v1 v2 : V} {c : Bool} (ho : o.op = .indexAddr t x y) (hx : evO s x = some v1) (hy : evO s y = some v2) (h1 : indexAddrX E.tab h.b t v1 v2 = some (c, v)) (hc : c = true) : Yl ρ E k B s h o v := by
  unfold indexAddrX at h1
  split at h1
  · split at h1
    · split at h1
      · rename_i z hz
        obtain ⟨td, tz, tb, tr, e', ed, eb, er, g1, g2, g3⟩ := slI_ok hz
        split at h1
        · rename_i he
          have he := Nat.eq_of_beq_eq_true he
          injection h1 with h1; simp only [Prod.mk.injEq] at h1; obtain ⟨h1, rfl⟩ := h1
          subst h1
          obtain ⟨h2, h3⟩ := inI_ok hc
          subst he
          exact Yl.indexR ho g1 g2 g3 hx hy h2 h3 (by omega)
        · cases h1
      · cases h1
    · split at h1
      · rename_i z hz
        obtain ⟨td, tz, tb, tr, e', ed, eb, er, g1, g2, g3⟩ := slI_ok hz
        split at h1
        · cases h1
        · split at h1
          · rename_i r hr
            split at h1
            · rename_i l hl
              injection h1 with h1; simp only [Prod.mk.injEq] at h1; obtain ⟨h1, rfl⟩ := h1
              subst h1
              obtain ⟨h2, h3⟩ := inI_ok hc
              obtain ⟨e3, _⟩ := dropN_ok hr
              obtain ⟨e4, e5⟩ := takeN_ok hl
              exact Yl.indexL ho g1 g2 g3 hx hy h2 h3 (by rw [e3]; exact e4) (by rw [e5]; omega)
            · cases h1
          · cases h1
      · cases h1
    · split at h1
      · rename_i z hz
        obtain ⟨td, tz, tb, tr, e', ed, eb, er, g1, g2, g3⟩ := slI_ok hz
        split at h1
        · rename_i he _
          have he := Nat.eq_of_beq_eq_true he
          injection h1 with h1; simp only [Prod.mk.injEq] at h1; obtain ⟨h1, rfl⟩ := h1
          subst h1
          obtain ⟨h2, h3⟩ := inI_ok hc
          subst he
          exact Yl.indexE ho g1 g2 g3 hx hy h2 h3
        · rename_i he _
          have he := Nat.eq_of_beq_eq_true he
          injection h1 with h1; simp only [Prod.mk.injEq] at h1; obtain ⟨h1, rfl⟩ := h1
          subst h1
          obtain ⟨h2, h3⟩ := inI_ok hc
          subst he
          exact Yl.indexS ho g1 g2 g3 hx hy h2 h3
        · cases h1
      · cases h1
    · split at h1
      · rename_i n g z hz
        obtain ⟨td, tz, tb, tr, e', ed, eb, er, g1, g2, g3, _⟩ := arrI_ok hz
        injection h1 with h1; simp only [Prod.mk.injEq] at h1; obtain ⟨h1, rfl⟩ := h1
        subst h1
        obtain ⟨h2, h3⟩ := inI_ok hc
        exact Yl.indexA ho g1 g2 g3 hx hy h2 h3
      · cases h1
    · split at h1
      · rename_i n g z hz
        obtain ⟨td, tz, tb, tr, e', ed, eb, er, g1, g2, g3, _⟩ := arrI_ok hz
        split at h1
        · rename_i r hr
          split at h1
          · rename_i l hl
            injection h1 with h1; simp only [Prod.mk.injEq] at h1; obtain ⟨h1, rfl⟩ := h1
            subst h1
            obtain ⟨h2, h3⟩ := inI_ok hc
            obtain ⟨e3, _⟩ := dropN_ok hr
            obtain ⟨e4, _⟩ := takeN_ok hl
            exact Yl.indexLA ho g1 g2 g3 hx hy h2 h3 (by rw [e3]; exact e4)
          · cases h1
        · cases h1
      · cases h1
    · cases h1
  · cases h1
end
end Go.Proofs.Ytmgckodihnmjoaa
