/-
  Blocks that are forgotten; loops that make blocks. Conditions: none.
-/
import Derived.Test.YtmgckodihnmjoaaSy20
set_option linter.unusedVariables false
set_option linter.unusedSimpArgs false
set_option maxRecDepth 20000
namespace Go.Proofs.Ytmgckodihnmjoaa
open Go.RowKit

mutual
/-- All names are below n. -/
def V.lowN (n : Nat) : V → Bool
  | .sl _ id _ _ => Nat.blt id n
  | .ptr id _ => Nat.blt id n
  | .el _ id _ _ => Nat.blt id n
  | .map id => Nat.blt id n
  | .fn _ a c => lowL n a && lowL n c
  | .ifc _ v => v.lowN n
  | .agg cs => lowL n cs
  | .tup vs => lowL n vs
  | .un => true
  | .d _ => true
def lowL (n : Nat) : List V → Bool
  | [] => true
  | v :: r => v.lowN n && lowL n r
end
theorem lowL_get {n : Nat} {l : List V} (h : lowL n l = true) {j : Nat} {v : V} (hj : l[j]? = some v) : v.lowN n = true := by
  induction l generalizing j with
  | nil => simp at hj
  | cons x r ih =>
    simp only [lowL, Bool.and_eq_true] at h
    cases j with
    | zero => simp at hj; subst hj; exact h.1
    | succ j => exact ih h.2 (by simpa using hj)
theorem VR.low {U : Nat → Prop} {m : Nat → Option Nat} {n n' : Nat} {w : World} {v : V} {r : Value} (h : VR U m n' w v r) (hv : v.lowN n = true) : VR U m n w v r := by
  induction h with
  | un v => exact .un v
  | d h => exact .d h
  | sl hid hx hk hc h1 h2 => exact .sl (Nat.le_of_ble_eq_true hv) hx hk hc h1 h2
  | sl0 hid hx => exact .sl0 (Nat.le_of_ble_eq_true hv) hx
  | ptr hid hx => exact .ptr (Nat.le_of_ble_eq_true hv) hx
  | el hid hx => exact .el (Nat.le_of_ble_eq_true hv) hx
  | map hid hx => exact .map (Nat.le_of_ble_eq_true hv) hx
  | fn la lc ha hc iha ihc =>
    simp only [V.lowN, Bool.and_eq_true] at hv
    exact .fn la lc (fun j x v h1 h2 => iha j x v h1 h2 (lowL_get hv.1 h1)) (fun j x v h1 h2 => ihc j x v h1 h2 (lowL_get hv.2 h1))
  | ifc h ih => exact .ifc (ih (by simpa [V.lowN] using hv))
  | agg hl h ih => exact .agg hl (fun j c v h1 h2 => ih j c v h1 h2 (lowL_get (by simpa [V.lowN] using hv) h1))
  | tup hl h ih => exact .tup hl (fun j c v h1 h2 => ih j c v h1 h2 (lowL_get (by simpa [V.lowN] using hv) h1))
def Blk.lowN (n : Nat) : Blk → Bool
  | .cells cs => lowL n cs
  | .dat _ => true
  | .rows _ _ _ => true
  | .mp es => lowL n (es.map (·.1)) && lowL n (es.map (·.2))
def lowH (n : Nat) : Heap → Bool
  | [] => true
  | (id, some b) :: r => (Nat.blt id n && b.lowN n) && lowH n r
  | (_, none) :: r => lowH n r
def lowS (n : Nat) : Slots → Bool
  | [] => true
  | (_, v) :: r => v.lowN n && lowS n r
theorem lowS_get {n : Nat} : ∀ {s : Slots}, lowS n s = true → ∀ {t : Nat} {v : V}, lk s t = some v → v.lowN n = true
  | [], _, t, v, hv => by simp [lk] at hv
  | (i, x) :: r, h, t, v, hv => by
    simp only [lowS, Bool.and_eq_true] at h
    rw [lk_cons] at hv
    split at hv
    · injection hv with hv; subst hv; exact h.1
    · exact lowS_get h.2 hv
theorem lowH_get {n : Nat} : ∀ {b : Heap}, lowH n b = true → ∀ {i : Nat} {k : Blk}, lk b i = some (some k) → i < n ∧ k.lowN n = true
  | [], _, i, k, hv => by simp [lk] at hv
  | (j, some x) :: r, h, i, k, hv => by
    simp only [lowH, Bool.and_eq_true] at h
    rw [lk_cons] at hv
    split at hv
    · rename_i he
      injection hv with hv; injection hv with hv; subst hv
      subst he
      exact ⟨Nat.le_of_ble_eq_true h.1.1, h.1.2⟩
    · exact lowH_get h.2 hv
  | (j, none) :: r, h, i, k, hv => by
    simp only [lowH] at h
    rw [lk_cons] at hv
    split at hv
    · injection hv with hv; cases hv
    · exact lowH_get h hv
theorem BR.low {U : Nat → Prop} {m : Nat → Option Nat} {n n' : Nat} {w : World} {x : Option Nat} {k : Blk} (h : BR U m n' w x k) (hk : k.lowN n = true) : BR U m n w x k := by
  cases h with
  | cells h =>
    obtain ⟨arr, t, h1, h2, h3⟩ := h
    exact .cells ⟨arr, t, h1, h2, fun j c v h4 h5 => (h3 j c v h4 h5).low (lowL_get hk h4)⟩
  | dat h => exact .dat h
  | rows hl h => exact .rows hl h
  | rows0 => exact .rows0
  | cells0 => exact .cells0
  | dat0 => exact .dat0
  | mp ents clock h hl h1 h2 =>
    simp only [Blk.lowN, Bool.and_eq_true] at hk
    exact .mp ents clock h hl (fun j e r h3 h4 => (h1 j e r h3 h4).low (lowL_get hk.1 (by rw [List.getElem?_map, h3]; rfl))) (fun j e r h3 h4 => (h2 j e r h3 h4).low (lowL_get hk.2 (by rw [List.getElem?_map, h3]; rfl)))
/-- The blocks of the second are blocks of the first. -/
def HSub (b b' : Heap) : Prop := ∀ i k, lk b' i = some (some k) → lk b i = some (some k)
theorem HSub.nil (b : Heap) : HSub b [] := fun i k h => by simp [lk] at h
theorem HSub.cons {b b' : Heap} {i : Nat} {x : Option Blk} (h : lk b i = some x) (k : HSub b b') : HSub b ((i, x) :: b') := fun j y hy => by
  rw [lk_cons] at hy
  split at hy
  · rename_i he
    subst he
    rw [h]; exact hy
  · exact k j y hy
theorem HSub.refl (b : Heap) : HSub b b := fun _ _ h => h
section
variable {E : Env} {k B : Nat} {s s' : Slots} {h h' : Hp} {Q Q' : Post} {U : Nat → Prop} {m : Nat → Option Nat} {a : Act} {w : World}
theorem SR.sub {n : Nat} {b : Heap} (r : SR k B U m s' h' a w) (hl : Le s' s) (hb : HSub h'.b b) (h1 : lowS n s = true) (h2 : lowH n b = true) (hB : B ≤ n) : SR k B U m s ⟨n, b⟩ a w where
  slots := fun t v hv => by
    obtain ⟨x, hx, hvr⟩ := (r.le hl).slots t v hv
    exact ⟨x, hx, hvr.low (lowS_get h1 hv)⟩
  size := r.size
  defers := r.defers
  heap := ⟨fun id blk h3 => ⟨(lowH_get h2 h3).1, ((r.heap.live id blk (hb _ _ h3)).2).low (lowH_get h2 h3).2⟩, fun id blk x h3 h4 => r.heap.ok id blk x (hb _ _ h3) h4, fun id id' blk blk' x h3 h4 h5 h6 => r.heap.inj id id' blk blk' x (hb _ _ h3) (hb _ _ h4) h5 h6, r.heap.ulow⟩
  base := hB
theorem Stp.sub {U' : Nat → Prop} {m' : Nat → Option Nat} {w' : World} {n n1 : Nat} {b b1 b' : Heap} (st : Stp B U m n b w U' m' n1 b1 w') (hb : HSub b1 b') {n2 : Nat} (hn : n ≤ n2) : Stp B U m n b w U' m' n2 b' w' :=
  { st with hn := hn, own := fun x hx h => st.own x hx (by obtain ⟨id, blk, h1, h2⟩ := h; exact ⟨id, blk, hb _ _ h1, h2⟩) }
/-- A loop whose rounds make blocks that are forgotten at its head. -/
theorem T.loopH {α : Type} (S : α → Slots) (H : α → Hp) (I : α → Prop) (μ : α → Nat) {c : Code} (x : α) (hl : Le s (S x)) (hb : HSub h.b (H x).b) (hn : h.n ≤ (H x).n) (h1 : lowS (H x).n (S x) = true) (h2 : lowH (H x).n (H x).b = true) (hI : I x)
    (round : ∀ x, I x → T E k B c (S x) (H x) (thenP (fun s' h' => ∃ y, I y ∧ μ y < μ x ∧ Le s' (S y) ∧ HSub h'.b (H y).b ∧ (H x).n ≤ (H y).n ∧ lowS (H y).n (S y) = true ∧ lowH (H y).n (H y).b = true) Q)) : T E k B (.loop c) s h Q := by
  have key : ∀ n x, μ x < n → I x → ∀ U m a w, SR k B U m (S x) (H x) a w → Code.rounds E.P c (RP k B U m (H x) w Q) n a w := by
    intro n
    induction n with
    | zero => intro x hx; omega
    | succ n ih =>
      intro x hx hI U m a w r
      rw [rounds_succ]
      refine wp_mono (round x hI U m a w r) fun e a' w' ⟨U', m', s', h', q, r', st⟩ => ?_
      cases e with
      | normal =>
        obtain ⟨y, hy, hm, hl, hb, hn, h1, h2⟩ := q
        have := ih y (by omega) hy U' m' a' w' (r'.sub hl hb h1 h2 (Nat.le_trans r.base hn))
        refine rounds_mono ?_ _ _ _ this
        exact fun e a2 w2 h2 => RP_trans (h' := H y) (st.sub hb hn) h2
      | _ => exact ⟨U', m', s', h', q, r', st⟩
  exact fun U m a w r => by
    have r1 := r.sub hl hb h1 h2 (Nat.le_trans r.base hn)
    refine wp_loop_rounds (μ x + 1) (rounds_mono ?_ _ _ _ (key _ x (by omega) hI U m a w r1))
    exact fun e a2 w2 h2 => RP_trans (h' := H x) ((Stp.refl B U m h.n h.b w).sub hb hn) h2
/-- Blocks and slots that are not needed any more. -/
theorem T.forget {c : Code} (s1 : Slots) (b1 : Heap) (hl : Le s s1) (hb : HSub h.b b1) (h1 : lowS h.n s1 = true) (h2 : lowH h.n b1 = true) (t : T E k B c s1 ⟨h.n, b1⟩ Q) : T E k B c s h Q := fun U m a w r => by
  refine wp_mono (t U m a w (r.sub hl hb h1 h2 r.base)) fun e a' w' q => RP_trans (h' := ⟨h.n, b1⟩) ((Stp.refl B U m h.n h.b w).sub hb (Nat.le_refl _)) q
def kindO : Op → Nat
  | .pick .. => 1
  | .indexAddr .. => 2
  | .binOp .add _ _ _ _ => 31
  | .binOp .sub _ _ _ _ => 32
  | .binOp .mul _ _ _ _ => 33
  | .binOp .eql _ _ _ _ => 34
  | .binOp .neq _ _ _ _ => 35
  | .unOp .. => 4
  | .convert .. => 5
  | .build .. => 6
  | .slice .. => 7
  | .sliceToArrayPointer .. => 8
  | .call { callee := .builtin .append, .. } => 91
  | .call { callee := .builtin .max, .. } => 92
  | .call { callee := .builtin .min, .. } => 93
  | .call { callee := .value (.func _), .. } => 90
  | .makeFunc .. => 10
  | .nilCheck .. => 11
  | .buildSlice .. => 12
  | _ => 0
theorem TO.atK {ops : Array Oper} {rest : List Oper} {o : Oper} (n : Nat) (hk : Nat.beq (kindO o.op) n = true) (t : TO E k B ops (o :: rest) s h Q) : TO E k B ops (o :: rest) s h Q := t
theorem TL.atK {l : List Oper} {g : Nat → Bool} {σ : List Nat} {listed : Array Bool} {i : Nat} {o : Oper} (n : Nat) (hi : getN l i = some o) (hk : Nat.beq (kindO o.op) n = true) (t : TL E k B l g (i :: σ) listed s h Q) : TL E k B l g (i :: σ) listed s h Q := t
theorem TO.atG {ops : Array Oper} {rest : List Oper} {o : Oper} (hk : o.guard.isSome = true) (t : TO E k B ops (o :: rest) s h Q) : TO E k B ops (o :: rest) s h Q := t
theorem TL.atG {l : List Oper} {g : Nat → Bool} {σ : List Nat} {listed : Array Bool} {i : Nat} {o : Oper} (hi : getN l i = some o) (hk : o.guard.isSome = true) (t : TL E k B l g (i :: σ) listed s h Q) : TL E k B l g (i :: σ) listed s h Q := t
theorem T.at_ {c : Code} (t : T E k B c s h Q) : T E k B c s h Q := t
theorem T.atR {id : Nat} {l : List Oper} {b : Bool} (t : T E k B (.region id l.toArray b) s h Q) : T E k B (.region id l.toArray b) s h Q := t
theorem TO.at_ {ops : Array Oper} {l : List Oper} (t : TO E k B ops l s h Q) : TO E k B ops l s h Q := t
theorem TL.at_ {l : List Oper} {g : Nat → Bool} {σ : List Nat} {listed : Array Bool} (t : TL E k B l g σ listed s h Q) : TL E k B l g σ listed s h Q := t
theorem T.atReg (id : Nat) {l : List Oper} (t : T E k B (.region id l.toArray false) s h Q) : T E k B (.region id l.toArray false) s h Q := t
theorem T.leF {c : Code} (hl : Le s s') (t : T E k B c s' h Q) : T E k B c s h Q := t.le hl
end
/-- sub-heap, entry by entry -/
macro "h_sub" : tactic => `(tactic| repeat (first | exact HSub.nil _ | refine HSub.cons rfl ?_))
end Go.Proofs.Ytmgckodihnmjoaa
