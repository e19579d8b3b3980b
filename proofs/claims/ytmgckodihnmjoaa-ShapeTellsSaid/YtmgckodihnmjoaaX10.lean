/-
  The reckoner: regions, in the text's order, or in one that stands for all. Conditions: none.
-/
import Derived.Test.YtmgckodihnmjoaaX9
set_option linter.unusedVariables false
set_option linter.unusedSimpArgs false
set_option maxRecDepth 20000
namespace Go.Proofs.Ytmgckodihnmjoaa
open Go.RowKit

section
variable {E : Env} {k B : Nat} {s s' : Slots} {h h' : Hp} {Q Q' : Post} {U : Nat → Prop} {m : Nat → Option Nat} {a : Act} {w w' : World} {o : Oper} {v : V} {d n : Nat} {ops : Array Oper} {rest : List Oper} {K K' : Slots → Hp → Prop}

/-- Of a block less is known. -/
def BkLe (x y : Blk) : Prop := ∀ (U : Nat → Prop) (m : Nat → Option Nat) (n : Nat) (w : World) (mx : Option Nat), BR U m n w mx x → BR U m n w mx y
theorem BkLe.refl (x : Blk) : BkLe x x := fun _ _ _ _ _ h => h
theorem BkLe.cells {l l' : List V} (h : LLe l l') : BkLe (.cells l) (.cells l') := fun U m n w mx k => by
  cases k with
  | cells k =>
    obtain ⟨arr, t, h1, h2, h3⟩ := k
    exact .cells ⟨arr, t, h1, by rw [← h.1]; exact h2, fun j c v g1 g2 => by
      obtain ⟨x, g3, g4⟩ := h.get g1
      exact g4 _ _ _ _ _ (h3 j x v g3 g2)⟩
  | cells0 =>
    have : l' = [] := List.eq_nil_of_length_eq_zero h.1.symm
    subst this; exact .cells0
/-- Of blocks less is known, or fewer are at hand. -/
def HLe (h h' : Hp) : Prop := h.n ≤ h'.n ∧ ∀ i y, lk h'.b i = some (some y) → ∃ x, lk h.b i = some (some x) ∧ BkLe x y
theorem HLe.refl (h : Hp) : HLe h h := ⟨Nat.le_refl _, fun i y hy => ⟨y, hy, .refl _⟩⟩
theorem SR.leH (r : SR k B U m s h a w) (l : HLe h h') : SR k B U m s h' a w ∧ Stp B U m h.n h.b w U m h'.n h'.b w := by
  obtain ⟨hn, hb⟩ := l
  refine ⟨⟨fun t v hv => ?_, r.size, r.defers, ⟨fun i y hy => ?_, fun i y x hy hx => ?_, fun i i' y y' x h1 h2 h3 h4 => ?_, r.heap.ulow⟩, Nat.le_trans r.base hn⟩, { Stp.refl B U m h.n h.b w with hn := hn, own := fun x hx ⟨i, y, h1, h2⟩ => ?_ }⟩
  · obtain ⟨x, h1, h2⟩ := r.slots t v hv
    exact ⟨x, h1, h2.mono (fun _ h => h) (fun _ _ => rfl) (fun _ _ h => h) hn (fun _ _ => rfl)⟩
  · obtain ⟨x, h1, h2⟩ := hb i y hy
    obtain ⟨g1, g2⟩ := r.heap.live i x h1
    exact ⟨Nat.lt_of_lt_of_le g1 hn, (h2 _ _ _ _ _ g2).mono (fun _ h => h) (fun _ _ => rfl) (fun _ _ h => h) hn (fun _ _ => rfl) (fun _ _ => rfl)⟩
  · obtain ⟨z, h1, _⟩ := hb i y hy
    exact r.heap.ok i z x h1 hx
  · obtain ⟨z, g1, _⟩ := hb i y h1
    obtain ⟨z', g2, _⟩ := hb i' y' h2
    exact r.heap.inj i i' z z' x g1 g2 h3 h4
  · obtain ⟨z, g1, _⟩ := hb i y h1
    exact ⟨i, z, g1, h2⟩
/-- Of a frame less is known, slot by slot. -/
def SLe (s s' : Slots) : Prop := ∀ t v, lk s' t = some v → ∃ u, lk s t = some u ∧ VLe u v
theorem SLe.refl (s : Slots) : SLe s s := fun _ v h => ⟨v, h, .refl v⟩
theorem SLe.trans {s1 s2 s3 : Slots} (h : SLe s1 s2) (k : SLe s2 s3) : SLe s1 s3 := fun t v hv => by
  obtain ⟨u, h1, h2⟩ := k t v hv
  obtain ⟨z, h3, h4⟩ := h t u h1
  exact ⟨z, h3, h4.trans h2⟩
theorem SLe.of (h : Le s s') : SLe s s' := fun _ _ hv => h _ (lk_mem hv)
theorem SLe.known {dj : Nat} {b c : Bool} (hb : lk s dj = some (vb b)) (he : b = c) : SLe s ((dj, vb c) :: s) := fun t v hv => by
  rw [lk_cons] at hv
  split at hv
  · rename_i e
    subst e; injection hv with hv; subst hv; subst he
    exact ⟨_, hb, .refl _⟩
  · exact ⟨v, hv, .refl v⟩
theorem SR.sle (hs : SR k B U m s h a w) (hl : SLe s s') : SR k B U m s' h a w where
  slots := fun t v hv => by
    obtain ⟨u, h1, h2⟩ := hl t v hv
    obtain ⟨r, h3, h4⟩ := hs.slots t u h1
    exact ⟨r, h3, h4.le h2⟩
  size := hs.size
  defers := hs.defers
  heap := hs.heap
  base := hs.base
/-- A state of which less is known. -/
theorem TO.leS {l : List Oper} (t : TO E k B ops l s' h' Q) (hs : SLe s s') (hh : HLe h h') : TO E k B ops l s h Q := fun U m a w r => by
  obtain ⟨r1, st⟩ := (r.sle hs).leH hh
  exact RP.step' st (t U m a w r1)
theorem TA.leS {g : Nat → Bool} {n : Nat} {listed : Array Bool} (t : TA E k B ops g n listed s' h' Q) (hs : SLe s s') (hh : HLe h h') : TA E k B ops g n listed s h Q := fun U m a w r => by
  obtain ⟨r1, st⟩ := (r.sle hs).leH hh
  exact wpAnyK_mono (fun e a2 w2 q => RP_trans st q) _ _ _ _ (t U m a w r1)
theorem T.leS {c : Code} (t : T E k B c s' h' Q) (hs : SLe s s') (hh : HLe h h') : T E k B c s h Q := fun U m a w r => by
  obtain ⟨r1, st⟩ := (r.sle hs).leH hh
  exact wp_mono (t U m a w r1) fun e a2 w2 q => RP_trans st q
/-- One whose guard is shut, the one operation that may come. -/
theorem TA.shutE {g : Nat → Bool} {n : Nat} {listed : Array Bool} (i : Nat) (hi : ops[i]? = some o) (hw : Wants s ops o false) (hd : o.dst = some d) (hk : Nat.blt d k = true) (hr : Region.ready .any ops listed = [i]) (t : TA E k B ops g n (listed.setIfInBounds i true) ((d, .un) :: s) h Q) : TA E k B ops g (n + 1) listed s h Q := fun U m a w r => by
  refine ⟨(fun e => by rw [hr] at e; cases e), fun j hj => ?_⟩
  rw [hr] at hj
  simp only [List.mem_singleton] at hj
  subst hj
  unfold wpOp
  simp only [hi, r.wants hw]
  rw [if_neg (by simp), hd]
  exact ⟨fun _ => .refl w, t U m _ w (r.put hk (.un _))⟩
/-- One of two blocks. -/
noncomputable def selB (b : Bool) (x y : Blk) : Option Blk :=
  match x, y with
  | .cells l, .cells l' => some (.cells (selVs b l l'))
  | .rows n e f, .rows n' e' f' => match Nat.beq e e' with
    | true => some (.rows (selN b n n') e (fun i => selL b (f i) (f' i)))
    | false => none
  | .dat l, .dat l' => some (.dat (selL b l l'))
  | _, _ => none
theorem selB_le {b : Bool} {x y z : Blk} (h : selB b x y = some z) : BkLe (cond b x y) z := by
  unfold selB at h
  split at h
  · injection h with h; subst h
    rename_i l l'
    have e : (cond b (Blk.cells l) (Blk.cells l')) = .cells (cond b l l') := by cases b <;> rfl
    rw [e]; exact .cells (selVs_le b l l')
  · split at h
    · rename_i he
      have he := Nat.eq_of_beq_eq_true he
      subst he
      injection h with h; subst h
      simp only [selL_eq, selN_eq]
      cases b <;> exact .refl _
    · cases h
  · injection h with h; subst h
    rw [selL_eq]
    cases b <;> exact .refl _
  · cases h
/-- One of two rows of blocks. -/
noncomputable def selH (b : Bool) (h1 h2 : Hp) (ids : Heap) : Hp :=
  ⟨cond (Nat.ble h1.n h2.n) h2.n h1.n, List.rec [] (fun p _ ih => match lkr h1.b p.1 with
    | some (some x) => (match lkr h2.b p.1 with
      | some (some y) => (match selB b x y with
        | some z => (p.1, some z) :: ih
        | none => ih)
      | _ => ih)
    | _ => ih) ids⟩
theorem selH_mem {b : Bool} {h1 h2 : Hp} {ids : Heap} {i : Nat} {z : Blk} (hz : lk (selH b h1 h2 ids).b i = some (some z)) : ∃ x y, lk h1.b i = some (some x) ∧ lk h2.b i = some (some y) ∧ selB b x y = some z := by
  induction ids with
  | nil => simp [selH, lk] at hz
  | cons p r ih =>
    have e : (selH b h1 h2 (p :: r)).b = (match lkr h1.b p.1 with
      | some (some x) => (match lkr h2.b p.1 with
        | some (some y) => (match selB b x y with
          | some z => (p.1, some z) :: (selH b h1 h2 r).b
          | none => (selH b h1 h2 r).b)
        | _ => (selH b h1 h2 r).b)
      | _ => (selH b h1 h2 r).b) := rfl
    rw [e] at hz
    simp only [lkr_eq] at hz
    split at hz
    · rename_i x hx
      split at hz
      · rename_i y hy
        split at hz
        · rename_i z' hz'
          rw [lk_cons] at hz
          split at hz
          · rename_i he
            subst he
            injection hz with hz; injection hz with hz; subst hz
            exact ⟨x, y, hx, hy, hz'⟩
          · exact ih hz
        · exact ih hz
      · exact ih hz
    · exact ih hz
theorem selH_n1 (b : Bool) (h1 h2 : Hp) (ids : Heap) : h1.n ≤ (selH b h1 h2 ids).n ∧ h2.n ≤ (selH b h1 h2 ids).n := by
  show h1.n ≤ cond (Nat.ble h1.n h2.n) h2.n h1.n ∧ h2.n ≤ cond (Nat.ble h1.n h2.n) h2.n h1.n
  cases hb : Nat.ble h1.n h2.n
  · refine ⟨Nat.le_refl _, ?_⟩
    rcases Nat.lt_or_ge h2.n h1.n with h | h
    · exact Nat.le_of_lt h
    · rw [Nat.ble_eq_true_of_le h] at hb; cases hb
  · exact ⟨Nat.le_of_ble_eq_true hb, Nat.le_refl _⟩
theorem selH_t {b : Bool} (hb : b = true) (h1 h2 : Hp) (ids : Heap) : HLe h1 (selH b h1 h2 ids) :=
  ⟨(selH_n1 b h1 h2 ids).1, fun i z hz => by
    obtain ⟨x, y, e1, e2, e3⟩ := selH_mem hz
    have := selB_le e3
    subst hb
    exact ⟨x, e1, this⟩⟩
theorem selH_f {b : Bool} (hb : b = false) (h1 h2 : Hp) (ids : Heap) : HLe h2 (selH b h1 h2 ids) :=
  ⟨(selH_n1 b h1 h2 ids).2, fun i z hz => by
    obtain ⟨x, y, e1, e2, e3⟩ := selH_mem hz
    have := selB_le e3
    subst hb
    exact ⟨y, e2, this⟩⟩

/-- What a region comes to: what must hold, the frame, the blocks, if they are others, whose truth values are plain; or where it stops. -/
inductive Rn where
  | ok (l : List Ob) (s : Slots) (h : Option Hp) (kn : List Nat)
  | bad (i : Nat)
noncomputable def appO (l : List Ob) (r : List Ob) : List Ob := List.rec r (fun x _ ih => x :: ih) l
theorem appO_eq (l r : List Ob) : appO l r = l ++ r := by
  induction l with
  | nil => rfl
  | cons x l ih => show x :: appO l r = _; rw [ih]; rfl
noncomputable def orH (a b : Option Hp) : Option Hp := match b with | some h => some h | none => a
theorem orH_getD (a b : Option Hp) (h : Hp) : (orH a b).getD h = b.getD (a.getD h) := by cases b <;> rfl
noncomputable def Rn.pre (l : List Ob) (h : Option Hp) : Rn → Rn
  | .ok l' s h' kn => .ok (appO l l') s (orH h h') kn
  | .bad i => .bad i
/-- Two ways' conditions. -/
def brO (b : Bool) (l1 l2 : List Ob) : List Ob := match l1 with
  | [] => match l2 with
    | [] => []
    | _ => [.br b l1 l2]
  | _ => [.br b l1 l2]
theorem brO_ok {b : Bool} {l1 l2 : List Ob} (h : obsL (brO b l1 l2)) : (b = true → obsL l1) ∧ (b = false → obsL l2) := by
  unfold brO at h
  split at h
  · split at h
    · exact ⟨fun _ => h, fun _ => h⟩
    · exact ⟨(obsL_br h).1, (obsL_br h).2.1⟩
  · exact ⟨(obsL_br h).1, (obsL_br h).2.1⟩
/-- What an operation assigns. -/
noncomputable def modO (o : Oper) : List Nat :=
  match o.op with
  | .call { callee := .builtin .append, args := ⟨.tmp t :: _⟩, argTypes := _ } => match o.dst with | some d => [d, t] | none => [t]
  | _ => match o.dst with | some d => [d] | none => []
noncomputable def modL (l : List Oper) : List Nat := List.rec [] (fun o _ ih => modO o ++ ih) l
theorem memN_iff {t : Nat} {l : List Nat} : memN t l = true ↔ t ∈ l := by
  induction l with
  | nil => exact ⟨fun h => (by cases h), fun h => (by simp at h)⟩
  | cons x r ih =>
    have e : memN t (x :: r) = cond (Nat.beq x t) true (memN t r) := rfl
    rw [e, List.mem_cons]
    cases hb : Nat.beq x t
    · rw [cond_false, ih]
      exact ⟨.inr, fun h => h.resolve_left (fun e => ne_of_beq hb e.symm)⟩
    · exact ⟨fun _ => .inl (Nat.eq_of_beq_eq_true hb).symm, fun _ => rfl⟩
/-- What isn't assigned, and is data, stays. -/
def Kp (ms : List Nat) (s s1 : Slots) : Prop := ∀ t, t ∉ ms → (lk s t = none → lk s1 t = none) ∧ ∀ x, lk s t = some (.d x) → lk s1 t = none ∨ lk s1 t = some (.d x)
theorem Kp.refl (ms : List Nat) (s : Slots) : Kp ms s s := fun _ _ => ⟨fun h => h, fun _ h => .inr h⟩
theorem Kp.trans {ms : List Nat} {s s1 s2 : Slots} (h : Kp ms s s1) (k : Kp ms s1 s2) : Kp ms s s2 := fun t ht => by
  obtain ⟨h1, h2⟩ := h t ht
  obtain ⟨k1, k2⟩ := k t ht
  exact ⟨fun e => k1 (h1 e), fun x e => (h2 x e).elim (fun e => .inl (k1 e)) (fun e => k2 x e)⟩
theorem Kp.mono {ms ms' : List Nat} {s s1 : Slots} (h : Kp ms s s1) (k : ∀ t, t ∈ ms → t ∈ ms') : Kp ms' s s1 := fun t ht => h t (fun e => ht (k t e))
theorem Kp.put {ms : List Nat} {d : Nat} (hd : d ∈ ms) (v : V) (s : Slots) : Kp ms s ((d, v) :: s) := fun t ht => by
  have hne : d ≠ t := fun e => ht (e ▸ hd)
  rw [lk_cons, if_neg hne]
  exact ⟨fun h => h, fun _ h => .inr h⟩
theorem Kp.drop (ms : List Nat) (id : Nat) (s : Slots) : Kp ms s (dropS id s) := fun t _ => by
  unfold dropS
  rw [lk_map]
  refine ⟨fun h => by rw [h]; rfl, fun x h => .inr ?_⟩
  rw [h]; rfl
theorem Kp.trim (ms : List Nat) (s : Slots) (live : List Nat) : Kp ms s (trimS s live) := by
  have key : ∀ t v, lk (trimS s live) t = some v → lk s t = some v := by
    induction live with
    | nil => intro t v h; simp [trimS, lk] at h
    | cons u r ih =>
      intro t v h
      have e : trimS s (u :: r) = (match lk s u with | some v => (u, v) :: trimS s r | none => trimS s r) := rfl
      rw [e] at h
      split at h
      · rename_i w hw
        rw [lk_cons] at h
        split at h
        · rename_i e; subst e; rw [hw]; exact h
        · exact ih t v h
      · exact ih t v h
  intro t _
  refine ⟨fun h => ?_, fun x h => ?_⟩
  · cases e : lk (trimS s live) t with
    | none => rfl
    | some v => rw [key t v e] at h; cases h
  · cases e : lk (trimS s live) t with
    | none => exact .inl rfl
    | some v => rw [key t v e] at h; exact .inr h
noncomputable def keepV (ms : List Nat) (s : Slots) (t : Nat) : Option D := match memN t ms with
  | true => none
  | false => match lkr s t with
    | some (.d x) => some x
    | _ => none
theorem keepV_ok {ms : List Nat} {s : Slots} {t : Nat} {x : D} (h : keepV ms s t = some x) : t ∉ ms ∧ lk s t = some (.d x) := by
  unfold keepV at h
  split at h
  · cases h
  · rename_i hm
    rw [lkr_eq] at h
    split at h
    · rename_i y hy
      injection h with h; subst h
      exact ⟨fun e => (by rw [memN_iff.2 e] at hm; cases hm), hy⟩
    · cases h
/-- The same kind of value, so that one of two is of that kind. -/
def sameD (x y : D) : Bool := match x with
  | .rows _ e _ => match y with
    | .rows _ e' _ => Nat.beq e e'
    | .nsl => true
    | _ => false
  | .lst _ _ => match y with
    | .lst _ _ => true
    | _ => false
  | .nsl => match y with
    | .rows _ _ _ => true
    | .nsl => true
    | _ => false
  | .lptr _ => match y with
    | .lptr _ => true
    | _ => false
  | .nilp => match y with
    | .nilp => true
    | _ => false
  | .bool _ => match y with
    | .bool _ => true
    | _ => false
  | .int k _ => match y with
    | .int k' _ => sameK k k'
    | _ => false
  | .str _ => match y with
    | .str _ => true
    | _ => false
  | _ => false
def sameV (x y : V) : Bool := match x with
  | .d x => match y with
    | .d y => sameD x y
    | _ => false
  | .agg l => match y with
    | .agg l' => Nat.beq l.length l'.length
    | _ => false
  | .tup l => match y with
    | .tup l' => Nat.beq l.length l'.length
    | _ => false
  | .sl e id _ _ => match y with
    | .sl e' id' _ _ => Nat.beq e e' && Nat.beq id id'
    | _ => false
  | .ptr id _ => match y with
    | .ptr id' _ => Nat.beq id id'
    | _ => false
  | .el e id _ _ => match y with
    | .el e' id' _ _ => Nat.beq e e' && Nat.beq id id'
    | _ => false
  | .map id => match y with
    | .map id' => Nat.beq id id'
    | _ => false
  | .fn f _ _ => match y with
    | .fn f' _ _ => Nat.beq f f'
    | _ => false
  | _ => false
noncomputable def selW (b : Bool) (x y : V) : V := match sameV x y with | true => selV b x y | false => .un
theorem selW_t {b : Bool} {x y : V} (h : b = true) : VLe x (selW b x y) := by
  unfold selW; split
  · exact selV_t h
  · exact VLe.un _
theorem selW_f {b : Bool} {x y : V} (h : b = false) : VLe y (selW b x y) := by
  unfold selW; split
  · exact selV_f h
  · exact VLe.un _
/-- One of two frames: what both name, and what stayed. -/
noncomputable def selK (b : Bool) (ms : List Nat) (s s1 s2 : Slots) : List Nat → Slots :=
  List.rec [] (fun t _ ih => match lkr s1 t with | some v1 => (match lkr s2 t with | some v2 => (match keepV ms s t with | some x => (t, .d x) :: ih | none => (t, selW b v1 v2) :: ih) | none => ih) | none => ih)
theorem selK_mem {b : Bool} {ms : List Nat} {s s1 s2 : Slots} {ts : List Nat} {p : Nat × V} (hp : p ∈ selK b ms s s1 s2 ts) : ∃ v1 v2, lk s1 p.1 = some v1 ∧ lk s2 p.1 = some v2 ∧ ((∃ x, keepV ms s p.1 = some x ∧ p.2 = .d x) ∨ (keepV ms s p.1 = none ∧ p.2 = selW b v1 v2)) := by
  induction ts with
  | nil => cases hp
  | cons t r ih =>
    have e : selK b ms s s1 s2 (t :: r) = (match lkr s1 t with | some v1 => (match lkr s2 t with | some v2 => (match keepV ms s t with | some x => (t, .d x) :: selK b ms s s1 s2 r | none => (t, selW b v1 v2) :: selK b ms s s1 s2 r) | none => selK b ms s s1 s2 r) | none => selK b ms s s1 s2 r) := rfl
    rw [e] at hp
    simp only [lkr_eq] at hp
    split at hp
    · rename_i v1 h1
      split at hp
      · rename_i v2 h2
        split at hp
        · rename_i x hx
          rcases List.mem_cons.1 hp with rfl | hp
          · exact ⟨v1, v2, h1, h2, .inl ⟨x, hx, rfl⟩⟩
          · exact ih hp
        · rename_i hx
          rcases List.mem_cons.1 hp with rfl | hp
          · exact ⟨v1, v2, h1, h2, .inr ⟨hx, rfl⟩⟩
          · exact ih hp
      · exact ih hp
    · exact ih hp
theorem selK_le {b : Bool} {ms : List Nat} {s s1 s2 : Slots} (k1 : Kp ms s s1) (k2 : Kp ms s s2) (ts : List Nat) : (b = true → Le s1 (selK b ms s s1 s2 ts)) ∧ (b = false → Le s2 (selK b ms s s1 s2 ts)) := by
  refine ⟨fun hb p hp => ?_, fun hb p hp => ?_⟩
  all_goals
    obtain ⟨v1, v2, h1, h2, h3⟩ := selK_mem hp
    rcases h3 with ⟨x, hx, e⟩ | ⟨_, e⟩
  · obtain ⟨g1, g2⟩ := keepV_ok hx
    rcases (k1 _ g1).2 x g2 with g3 | g3
    · rw [g3] at h1; cases h1
    · exact ⟨_, g3, by rw [e]; exact .refl _⟩
  · exact ⟨_, h1, by rw [e]; exact selW_t hb⟩
  · obtain ⟨g1, g2⟩ := keepV_ok hx
    rcases (k2 _ g1).2 x g2 with g3 | g3
    · rw [g3] at h2; cases h2
    · exact ⟨_, g3, by rw [e]; exact .refl _⟩
  · exact ⟨_, h2, by rw [e]; exact selW_f hb⟩
theorem selK_kp {b : Bool} {ms : List Nat} {s s1 s2 : Slots} (k1 : Kp ms s s1) (ts : List Nat) : Kp ms s (selK b ms s s1 s2 ts) := fun t ht => by
  refine ⟨fun h => ?_, fun x h => ?_⟩
  · cases e : lk (selK b ms s s1 s2 ts) t with
    | none => rfl
    | some v =>
      obtain ⟨v1, _, h1, _⟩ := selK_mem (lk_mem e)
      rw [(k1 t ht).1 h] at h1; cases h1
  · cases e : lk (selK b ms s s1 s2 ts) t with
    | none => exact .inl rfl
    | some v =>
      obtain ⟨v1, v2, h1, h2, h3⟩ := selK_mem (lk_mem e)
      have hk : keepV ms s t = some x := by
        unfold keepV
        cases hm : memN t ms
        · rw [lkr_eq, h]
        · exact absurd (memN_iff.1 hm) ht
      rcases h3 with ⟨y, g1, g2⟩ | ⟨g1, _⟩
      · rw [hk] at g1; injection g1 with g1; subst g1
        exact .inr (by rw [← g2])
      · rw [hk] at g1; cases g1
noncomputable def Rn.mrg (b : Bool) (ms live kn : List Nat) (s : Slots) (h : Hp) (r1 r2 : Rn) : Rn :=
  match r1 with
  | .ok l1 s1 h1 _ => match r2 with
    | .ok l2 s2 h2 _ => match h1, h2 with
      | none, none => .ok (brO b l1 l2) (selK b ms s s1 s2 live) none kn
      | _, _ => .ok (brO b l1 l2) (selK b ms s s1 s2 live) (some (selH b (h1.getD h) (h2.getD h) h.b)) kn
    | .bad i => .bad i
  | .bad i => .bad i
def eqW (b want : Bool) : Bool := match want with | true => b | false => !b
theorem eqW_t {b want : Bool} (h : eqW b want = true) : b = want := by cases b <;> cases want <;> first | rfl | cases h
theorem eqW_f {b want : Bool} (h : eqW b want = false) : b = !want := by cases b <;> cases want <;> first | rfl | cases h
/-- Whether an operand's truth value is plain. -/
noncomputable def knO (kn : List Nat) : Operand → Bool
  | .tmp t => memN t kn
  | .const _ => true
  | _ => false
noncomputable def knX (kn : List Nat) (s : Slots) (o : Oper) : List Nat :=
  match o.dst with
  | some d => match o.op with
    | .move x => cond (knO kn x) (d :: kn) kn
    | .assign x => cond (knO kn x) (d :: kn) kn
    | .unOp _ _ x => cond (knO kn x) (d :: kn) kn
    | .pick c x y => cond (knO kn c) (match evX s c with | some (.d (.bool b)) => cond b (cond (knO kn x) (d :: kn) kn) (cond (knO kn y) (d :: kn) kn) | _ => kn) kn
    | _ => kn
  | none => kn
noncomputable def ySlot (ops : List Oper) (j : Nat) : Option Nat := match getN ops j with | some o => o.dst | none => none
theorem ySlot_eq (ops : List Oper) (j : Nat) : ySlot ops j = yieldSlot ops.toArray j := by
  unfold ySlot yieldSlot
  rw [getN_eq, List.getElem?_toArray]
  cases ops[j]? <;> rfl
/-- Nothing names a block. -/
noncomputable def noS (id : Nat) (s : Slots) : Bool := List.rec true (fun p _ ih => cond (p.2.has id) false ih) s
theorem noS_ok {id : Nat} (h : noS id s = true) : ∀ t v, lk s t = some v → v.has id = false := by
  induction s with
  | nil => intro t v hv; simp [lk] at hv
  | cons p r ih =>
    obtain ⟨i, x⟩ := p
    have h' : cond (x.has id) false (noS id r) = true := h
    cases hx : x.has id
    · rw [hx] at h'
      intro t v hv
      rw [lk_cons] at hv
      split at hv
      · injection hv with hv; subst hv; exact hx
      · exact ih h' t v hv
    · rw [hx] at h'; cases h'
noncomputable def noH (id : Nat) (b : Heap) : Bool := List.rec true (fun p _ ih => match p.2 with | some k => cond (k.has id) false ih | none => ih) b
theorem noH_ok {id : Nat} {b : Heap} (h : noH id b = true) : ∀ i k, lk b i = some (some k) → k.has id = false := by
  induction b with
  | nil => intro t v hv; simp [lk] at hv
  | cons p r ih =>
    obtain ⟨i, x⟩ := p
    cases x with
    | none =>
      intro t v hv
      rw [lk_cons] at hv
      split at hv
      · cases hv
      · exact ih h t v hv
    | some x =>
      have h' : cond (x.has id) false (noH id r) = true := h
      cases hx : x.has id
      · rw [hx] at h'
        intro t v hv
        rw [lk_cons] at hv
        split at hv
        · injection hv with hv; injection hv with hv; subst hv; exact hx
        · exact ih h' t v hv
      · rw [hx] at h'; cases h'
/-- A variable, under a name that was kept for it. -/
noncomputable def allocX (X : Fx) (B k id : Nat) (o : Oper) (s : Slots) (h : Hp) : Option (List Ob × Slots × Option Hp) :=
  match o.op with
  | .alloc t => match o.dst, lkr X.tab t with
    | some d, some ty => match Nat.blt d k, ty.zero with
      | true, some z => match absL z.cells.toList with
        | some l => match Nat.ble B id && Nat.blt id h.n, noS id s && noH id h.b with
          | true, true => some ([], (d, .ptr id 0) :: s, some ⟨h.n, setH id (some (.cells l)) h.b⟩)
          | _, _ => none
        | none => none
      | _, _ => none
    | _, _ => none
  | _ => none
theorem allocX_ok {X : Fx} {id : Nat} {l : List Ob} {hn : Option Hp} (hX : X.tab = E.tab) (h1 : allocX X B k id o s h = some (l, s', hn)) : Ef E k B true s h o (fun s2 h2 => s2 = s' ∧ h2 = hn.getD h) ∧ effO o.op = true := by
  unfold allocX at h1
  split at h1
  · rename_i t ho
    refine ⟨?_, by rw [ho]; rfl⟩
    split at h1
    · rename_i d ty hd ht
      rw [lkr_eq, hX] at ht
      obtain ⟨td, tz, tb, tr⟩ := ty
      split at h1
      · rename_i z hk hz
        dsimp only at hz
        split at h1
        · rename_i lz hl
          split at h1
          · rename_i c1 c2
            obtain ⟨c3, c4⟩ := and_split c1
            obtain ⟨c5, c6⟩ := and_split c2
            injection h1 with h1; simp only [Prod.mk.injEq] at h1; obtain ⟨_, rfl, rfl⟩ := h1
            obtain ⟨hn, hb⟩ := h
            exact Ef.heq (setH_eq _ _ _) (Ef.ac (Ac.allocAt ho hd hk ht hz hl (Nat.le_of_ble_eq_true c3) (blt_iff.1 c4) (noS_ok c5) (fun i bk g _ => noH_ok c6 i bk g)) ⟨rfl, rfl⟩) ⟨rfl, rfl⟩
          · cases h1
        · cases h1
      · cases h1
    · cases h1
  · cases h1
noncomputable def stepA (X : Fx) (c : Cs) (B k : Nat) (gi : Bool) (rid : Option Nat) (o : Oper) (s : Slots) (h : Hp) : Option (List Ob × Slots × Option Hp) :=
  match rid with
  | none => stepX X c B k gi o s h
  | some id => allocX X B k id o s h
theorem stepA_ok {X : Fx} {c : Cs} {gi : Bool} {rid : Option Nat} {l : List Ob} {hn : Option Hp} (hX : X.tab = E.tab) (he : EqT E X.eqs) (hc : CsOk E c) (h1 : stepA X c B k gi rid o s h = some (l, s', hn)) (hl : obsL l) : Ef E k B gi s h o (fun s2 h2 => s2 = s' ∧ h2 = hn.getD h) ∧ (effO o.op = false → ∃ d v, o.dst = some d ∧ Nat.blt d k = true ∧ s' = (d, v) :: s ∧ hn = none ∧ Yl (rdO o.op) E k B s h o v) := by
  cases rid with
  | none => exact stepX_ok hX he hc h1 hl
  | some id =>
    obtain ⟨e1, e2⟩ := allocX_ok (E := E) hX h1
    exact ⟨e1.drop (fun _ => rfl), fun e => by rw [e2] at e; cases e⟩
section
variable {O : Type}
/-- Values are brought to their form ahead of what comes behind: the kernel carries no debts on. -/
noncomputable def frN (n : Nat) (k : Nat → O) : O := Nat.rec (motive := fun _ => O) (k 0) (fun m _ => k (Nat.succ m)) n
theorem frN_eq (n : Nat) (k : Nat → O) : frN n k = k n := by cases n <;> rfl
noncomputable def frK (l : List Nat) : (List Nat → O) → O := List.rec (motive := fun _ => (List Nat → O) → O) (fun k => k []) (fun t _ ih k => ih (fun r => k (t :: r))) l
theorem frK_eq (l : List Nat) : ∀ k : List Nat → O, frK l k = k l := by
  induction l with
  | nil => exact fun k => rfl
  | cons t r ih => exact fun k => ih fun r => k (t :: r)
noncomputable def frD0 (x : D) (k : D → O) : O := match x with
  | .int q n => k (.int q n)
  | .bool b => k (.bool b)
  | .lst n cs => k (.lst n cs)
  | x => k x
theorem frD0_eq (x : D) (k : D → O) : frD0 x k = k x := by cases x <;> rfl
noncomputable def frDs (l : List D) : (List D → O) → O := List.rec (motive := fun _ => (List D → O) → O) (fun k => k []) (fun t _ ih k => frD0 t fun t => ih (fun r => k (t :: r))) l
theorem frDs_eq (l : List D) : ∀ k : List D → O, frDs l k = k l := by
  induction l with
  | nil => exact fun k => rfl
  | cons t r ih =>
    intro k
    show frD0 t (fun t => frDs r fun r => k (t :: r)) = _
    rw [frD0_eq]; exact ih _
noncomputable def frD (x : D) (k : D → O) : O := match x with
  | .int q n => k (.int q n)
  | .bool b => k (.bool b)
  | .lst n cs => frDs cs fun cs => k (.lst n cs)
  | x => k x
theorem frD_eq (x : D) (k : D → O) : frD x k = k x := by cases x <;> first | rfl | exact frDs_eq _ _
noncomputable def frV0 (v : V) (k : V → O) : O := match v with
  | .d x => frD0 x fun x => k (.d x)
  | .ptr id off => frN id fun id => k (.ptr id off)
  | v => k v
theorem frV0_eq (v : V) (k : V → O) : frV0 v k = k v := by
  cases v with
  | d x => show frD0 x (fun x => k (.d x)) = _; rw [frD0_eq]
  | ptr id off => show frN id (fun id => k (.ptr id off)) = _; rw [frN_eq]
  | _ => rfl
noncomputable def frVs (l : List V) : (List V → O) → O := List.rec (motive := fun _ => (List V → O) → O) (fun k => k []) (fun t _ ih k => frV0 t fun t => ih (fun r => k (t :: r))) l
theorem frVs_eq (l : List V) : ∀ k : List V → O, frVs l k = k l := by
  induction l with
  | nil => exact fun k => rfl
  | cons t r ih =>
    intro k
    show frV0 t (fun t => frVs r fun r => k (t :: r)) = _
    rw [frV0_eq]; exact ih _
noncomputable def frV (v : V) (k : V → O) : O := match v with
  | .d x => frD x fun x => k (.d x)
  | .ptr id off => frN id fun id => k (.ptr id off)
  | .sl e id off len => frN id fun id => k (.sl e id off len)
  | .agg l => frVs l fun l => k (.agg l)
  | .tup l => frVs l fun l => k (.tup l)
  | v => k v
theorem frV_eq (v : V) (k : V → O) : frV v k = k v := by
  cases v with
  | d x => show frD x (fun x => k (.d x)) = _; rw [frD_eq]
  | ptr id off => show frN id (fun id => k (.ptr id off)) = _; rw [frN_eq]
  | sl e id off len => show frN id (fun id => k (.sl e id off len)) = _; rw [frN_eq]
  | agg l => show frVs l (fun l => k (.agg l)) = _; rw [frVs_eq]
  | tup l => show frVs l (fun l => k (.tup l)) = _; rw [frVs_eq]
  | _ => rfl
noncomputable def frS (l : Slots) : (Slots → O) → O := List.rec (motive := fun _ => (Slots → O) → O) (fun k => k []) (fun p _ ih k => match p with | (t, v) => frV v fun v => ih (fun r => k ((t, v) :: r))) l
theorem frS_eq (l : Slots) : ∀ k : Slots → O, frS l k = k l := by
  induction l with
  | nil => exact fun k => rfl
  | cons p r ih =>
    intro k
    obtain ⟨t, v⟩ := p
    show frV v (fun v => frS r fun r => k ((t, v) :: r)) = _
    rw [frV_eq]; exact ih _
noncomputable def frBk (b : Blk) (k : Blk → O) : O := match b with
  | .cells l => frVs l fun l => k (.cells l)
  | b => k b
theorem frBk_eq (b : Blk) (k : Blk → O) : frBk b k = k b := by cases b <;> first | rfl | exact frVs_eq _ _
noncomputable def frB (l : Heap) : (Heap → O) → O := List.rec (motive := fun _ => (Heap → O) → O) (fun k => k []) (fun p _ ih k => match p with
  | (i, none) => frN i fun i => ih (fun r => k ((i, none) :: r))
  | (i, some b) => frN i fun i => frBk b fun b => ih (fun r => k ((i, some b) :: r))) l
theorem frB_eq (l : Heap) : ∀ k : Heap → O, frB l k = k l := by
  induction l with
  | nil => exact fun k => rfl
  | cons p r ih =>
    intro k
    obtain ⟨i, ob⟩ := p
    cases ob with
    | none => show frN i (fun i => frB r fun r => k ((i, none) :: r)) = _; rw [frN_eq]; exact ih _
    | some b => show frN i (fun i => frBk b fun b => frB r fun r => k ((i, some b) :: r)) = _; rw [frN_eq, frBk_eq]; exact ih _
noncomputable def frH (h : Hp) (k : Hp → O) : O := match h with | ⟨n, b⟩ => frN n fun n => frB b fun b => k ⟨n, b⟩
theorem frH_eq (h : Hp) (k : Hp → O) : frH h k = k h := by
  obtain ⟨n, b⟩ := h
  show frN n (fun n => frB b fun b => k ⟨n, b⟩) = _
  rw [frN_eq, frB_eq]
noncomputable def frS1 (l : Slots) (k : Slots → O) : O := match l with
  | [] => k []
  | (t, v) :: r => frV v fun v => k ((t, v) :: r)
theorem frS1_eq (l : Slots) (k : Slots → O) : frS1 l k = k l := by
  match l with
  | [] => rfl
  | (t, v) :: r => exact frV_eq v fun v => k ((t, v) :: r)
end
noncomputable def openR (X : Fx) (c : Cs) (B k : Nat) (gi : Bool) (rid : Option Nat) (o : Oper) (ih : List Nat → Slots → Hp → Rn) (kn : List Nat) (s : Slots) (h : Hp) : Rn :=
  match stepA X c B k gi rid o s h with
  | some (l, s', h') => frS1 s' fun s' => match h' with
    | none => (ih (knX kn s o) s' h).pre l none
    | some h1 => frH h1 fun h1 => (ih (knX kn s o) s' h1).pre l (some h1)
  | none => match o.dst with | some d => .bad d | none => .bad 1000
noncomputable def shutR (k : Nat) (o : Oper) (ih : List Nat → Slots → Hp → Rn) (kn : List Nat) (s : Slots) (h : Hp) : Rn :=
  match o.dst with
  | some d => match Nat.blt d k with
    | true => ih kn ((d, .tup []) :: s) h
    | false => .bad d
  | none => .bad 1001
/-- An operation, and what comes behind it. lit: all truth values are plain. -/
noncomputable def stepG (X : Fx) (c : Cs) (B k : Nat) (lit : Bool) (ops : List Oper) (ms : List Nat) (gi : Bool) (rid : Option Nat) (live : List Nat) (o : Oper) (ih : List Nat → Slots → Hp → Rn) (kn : List Nat) (s : Slots) (h : Hp) : Rn :=
  match o.guard with
  | none => openR X c B k gi rid o ih kn s h
  | some (j, want) => match ySlot ops j with
    | some dj => match lkr s dj with
      | some (.d (.bool b)) => match lit || memN dj kn with
        | true => match want with
          | true => cond b (openR X c B k gi rid o ih kn s h) (shutR k o ih kn s h)
          | false => cond b (shutR k o ih kn s h) (openR X c B k gi rid o ih kn s h)
        | false => match want with
          | true => Rn.mrg b ms live kn s h (openR X c B k gi rid o ih (dj :: kn) ((dj, vb true) :: s) h) (shutR k o ih (dj :: kn) ((dj, vb false) :: s) h)
          | false => Rn.mrg b ms live kn s h (shutR k o ih (dj :: kn) ((dj, vb true) :: s) h) (openR X c B k gi rid o ih (dj :: kn) ((dj, vb false) :: s) h)
      | some (.tup l) => match l with
        | [] => shutR k o ih kn s h
        | _ => .bad dj
      | _ => .bad dj
    | none => .bad 1002
/-- A guard that is shut. -/
def NotW (E : Env) (k B : Nat) (s : Slots) (h : Hp) (ops : Array Oper) (o : Oper) : Prop := ∀ U m a w, SR k B U m s h a w → Region.wanted o (Go.yielded ops a.tmps) = false
theorem NotW.wants {ops : Array Oper} (hw : Wants s ops o false) : NotW E k B s h ops o := fun U m a w r => r.wants hw
theorem NotW.off {ops : Array Oper} {j dj : Nat} {want : Bool} (hg : o.guard = some (j, want)) (hj : yieldSlot ops j = some dj) (hb : lk s dj = some (.tup [])) : NotW E k B s h ops o := fun U m a w r => by
  obtain ⟨x, h1, h2⟩ := r.slots dj _ hb
  cases h2 with | tup hl h2 =>
  have e : Go.yielded ops a.tmps j = none := by
    unfold Go.yielded
    unfold yieldSlot at hj
    rw [hj]
    simp [h1]
  simp [Region.wanted, hg, e]
theorem VR.off {U : Nat → Prop} {m : Nat → Option Nat} {n : Nat} {w : World} : VR U m n w (.tup []) undef := .tup rfl (fun j c v h => by simp at h)
/-- Operations, one behind the other. -/
noncomputable def runO (X : Fx) (c : Cs) (B k : Nat) (lit : Bool) (ops : List Oper) (live : List Nat) (l : List Oper) : List Nat → Slots → Hp → Rn :=
  List.rec (motive := fun _ => List Nat → Slots → Hp → Rn) (fun kn s _ => .ok [] (trimS s live) none kn) (fun o _ ih kn s h => stepG X c B k lit ops (modL ops) false none live o ih kn s h) l
/-- Orders. -/
inductive OT where
  | done
  | one (i : Nat) (t : OT)
  | alt (x y : OT)
/-- Two orders that come to the same. -/
noncomputable def Rn.both (r1 r2 : Rn) : Rn :=
  match r1 with
  | .ok l1 s1 h1 kn => match r2 with
    | .ok l2 s2 h2 _ => .ok (.same s1 s2 h1 h2 :: appO l1 l2) s1 h1 kn
    | .bad i => .bad i
  | .bad i => .bad i
/-- Operations in several orders. -/
noncomputable def runT (X : Fx) (c : Cs) (B k : Nat) (lit : Bool) (ops : List Oper) (g : Nat → Bool) (rid : Nat → Option Nat) (live : List Nat) (x : OT) : List Nat → Slots → Hp → Rn :=
  OT.rec (motive := fun _ => List Nat → Slots → Hp → Rn) (fun kn s _ => .ok [] (trimS s live) none kn)
    (fun i _ ih kn s h => match getN ops i with | some o => stepG X c B k lit ops (modL ops) (g i) (rid i) live o ih kn s h | none => .bad 1003)
    (fun _ _ ih1 ih2 kn s h => Rn.both (ih1 kn s h) (ih2 kn s h)) x
def OT.heads : OT → List Nat
  | .done => []
  | .one i _ => [i]
  | .alt x y => x.heads ++ y.heads
mutual
/-- The orders are all there are, but for operations that only yield. -/
def okOT (l : List Oper) (g : Nat → Bool) : OT → Nat → Array Bool → Bool
  | .done, _, listed => (Region.ready .any l.toArray listed).isEmpty
  | .one i t, n + 1, listed => ((Region.ready .any l.toArray listed) == [i] || (match getN l i with
    | some o => match effO o.op with
      | true => false
      | false => (Region.free .any l.toArray listed i && (Region.ready .any l.toArray listed).contains i) && (!rdO o.op || freeG l.toArray listed i g)
    | none => false)) && okOT l g t n (listed.setIfInBounds i true)
  | .alt x y, n + 1, listed => (Region.ready .any l.toArray listed).all (fun i => (x.heads ++ y.heads).contains i) && (!(Region.ready .any l.toArray listed).isEmpty && (okOB l g x (n + 1) listed && okOB l g y (n + 1) listed))
  | _, 0, _ => false
def okOB (l : List Oper) (g : Nat → Bool) : OT → Nat → Array Bool → Bool
  | .one i t, n + 1, listed => okOT l g t n (listed.setIfInBounds i true)
  | .alt x y, n + 1, listed => okOB l g x (n + 1) listed && okOB l g y (n + 1) listed
  | _, _, _ => false
end
/-- What a region's end tells. -/
def Rn.post (h : Hp) (K : Slots → Hp → Prop) : Rn → Prop
  | .ok l s hn _ => obsL l ∧ K s (hn.getD h)
  | .bad _ => False
theorem Rn.post_pre {l : List Ob} {hn : Option Hp} {r : Rn} (h1 : (r.pre l hn).post h K) : obsL l ∧ r.post (hn.getD h) K := by
  cases r with
  | ok l' s h' kn =>
    obtain ⟨h2, h3⟩ := h1
    rw [appO_eq] at h2
    obtain ⟨h4, h5⟩ := obsL_app h2
    rw [orH_getD] at h3
    exact ⟨h4, h5, h3⟩
  | bad i => exact h1.elim
theorem HLe.trans {h1 h2 h3 : Hp} (h : HLe h1 h2) (k : HLe h2 h3) : HLe h1 h3 :=
  ⟨Nat.le_trans h.1 k.1, fun i z hz => by
    obtain ⟨y, e1, e2⟩ := k.2 i z hz
    obtain ⟨x, e3, e4⟩ := h.2 i y e1
    exact ⟨x, e3, fun U m n w mx q => e2 _ _ _ _ _ (e4 _ _ _ _ _ q)⟩⟩
/-- K holds of a state of which less is known. -/
def WK (K : Slots → Hp → Prop) (s : Slots) (h : Hp) : Prop := ∃ s' h', SLe s s' ∧ HLe h h' ∧ K s' h'
/-- A region's end keeps what it doesn't assign. -/
def Rn.kp (ms : List Nat) (s : Slots) : Rn → Prop
  | .ok _ s1 _ _ => Kp ms s s1
  | .bad _ => True
theorem Rn.mrg_post {b : Bool} {ms live kn : List Nat} {r1 r2 : Rn} (k1 : r1.kp ms s) (k2 : r2.kp ms s) (hp : (Rn.mrg b ms live kn s h r1 r2).post h (WK K)) : (b = true → r1.post h (WK K)) ∧ (b = false → r2.post h (WK K)) := by
  cases r1 with
  | bad i => exact hp.elim
  | ok l1 s1 h1 kk1 =>
  cases r2 with
  | bad i => exact hp.elim
  | ok l2 s2 h2 kk2 =>
  obtain ⟨g1, g2⟩ := selK_le (b := b) k1 k2 live
  have key : ∀ (hm : Option Hp), (b = true → HLe (h1.getD h) (hm.getD h)) → (b = false → HLe (h2.getD h) (hm.getD h)) → (Rn.ok (brO b l1 l2) (selK b ms s s1 s2 live) hm kn).post h (WK K) → (b = true → (Rn.ok l1 s1 h1 kk1).post h (WK K)) ∧ (b = false → (Rn.ok l2 s2 h2 kk2).post h (WK K)) := fun hm e1 e2 ⟨q1, s', h', q2, q3, q4⟩ => by
    obtain ⟨o1, o2⟩ := brO_ok q1
    exact ⟨fun hb => ⟨o1 hb, s', h', (SLe.of (g1 hb)).trans q2, (e1 hb).trans q3, q4⟩, fun hb => ⟨o2 hb, s', h', (SLe.of (g2 hb)).trans q2, (e2 hb).trans q3, q4⟩⟩
  cases h1 <;> cases h2
  · exact key none (fun _ => .refl _) (fun _ => .refl _) hp
  all_goals exact key (some _) (fun hb => selH_t hb _ _ _) (fun hb => selH_f hb _ _ _) hp
theorem Rn.mrg_kp {b : Bool} {ms live kn : List Nat} {r1 r2 : Rn} (k1 : r1.kp ms s) : (Rn.mrg b ms live kn s h r1 r2).kp ms s := by
  cases r1 with
  | bad i => trivial
  | ok l1 s1 h1 kk1 =>
  cases r2 with
  | bad i => trivial
  | ok l2 s2 h2 kk2 => cases h1 <;> cases h2 <;> exact selK_kp k1 live
theorem Rn.pre_kp {ms : List Nat} {l : List Ob} {hn : Option Hp} {r : Rn} {s0 : Slots} (k0 : Kp ms s s0) (k : r.kp ms s0) : (r.pre l hn).kp ms s := by
  cases r with
  | bad i => trivial
  | ok => exact k0.trans k
theorem Rn.both_kp {ms : List Nat} {r1 r2 : Rn} (k : r1.kp ms s) : (Rn.both r1 r2).kp ms s := by
  cases r1 with
  | bad i => trivial
  | ok => cases r2 <;> first | exact k | trivial
theorem stX_kp {X : Fx} {t : Nat} {v1 v2 : V} {hn : Nat} {hb : Heap} {c : Bool} (h1 : stX X t v1 v2 s hn hb = some (c, s', h')) : s' = s := by
  unfold stX at h1
  repeat' (first | (split at h1) | (injection h1 with h1; simp only [Prod.mk.injEq] at h1; exact h1.2.1.symm) | (cases h1; done))
theorem bsX_kp {X : Fx} {d len : Nat} {t : Nat} {parts : List (Nat × Operand)} {hn : Nat} {hb : Heap} {c : Bool} (h1 : bsX X d len t parts s hn hb = some (c, s', h')) : ∃ v, s' = (d, v) :: s := by
  unfold bsX at h1
  repeat' (first | (split at h1) | (injection h1 with h1; simp only [Prod.mk.injEq] at h1; exact ⟨_, h1.2.1.symm⟩) | (cases h1; done))
theorem apX_kp {X : Fx} {d : Nat} {t : Nat} {x : Operand} {v1 v2 : V} {hn : Nat} {hb : Heap} {c : Bool} (h1 : apX X B d t x v1 v2 s hn hb = some (c, s', h')) : (∃ v id, s' = (d, v) :: dropS id s) ∨ ∃ tt u v id, x = .tmp tt ∧ s' = (d, v) :: dropS id ((tt, u) :: s) := by
  unfold apX at h1
  repeat' (first | (split at h1) | (injection h1 with h1; simp only [Prod.mk.injEq] at h1; exact .inl ⟨_, _, h1.2.1.symm⟩) | (injection h1 with h1; simp only [Prod.mk.injEq] at h1; exact .inr ⟨_, _, _, _, rfl, h1.2.1.symm⟩) | (cases h1; done))
theorem putR_kp {ms : List Nat} {o : Oper} (hd : ∀ d, o.dst = some d → d ∈ ms) (v : V) : Kp ms s (putR o.dst v s) := by
  cases e : o.dst with
  | none => exact .refl _ _
  | some d => exact .put (hd d e) v s
theorem modO_dst {o : Oper} {d : Nat} (h : o.dst = some d) : d ∈ modO o := by
  unfold modO
  split
  · rw [h]; simp
  · rw [h]; simp
theorem stepA_kp {X : Fx} {c : Cs} {gi : Bool} {rid : Option Nat} {l : List Ob} {hn : Option Hp} (h1 : stepA X c B k gi rid o s h = some (l, s', hn)) : Kp (modO o) s s' := by
  have hd : ∀ d, o.dst = some d → d ∈ modO o := fun d => modO_dst
  cases rid with
  | some id =>
    have h1 : allocX X B k id o s h = some (l, s', hn) := h1
    unfold allocX at h1
    split at h1
    · split at h1
      · rename_i d ty he ht
        repeat' (first | (split at h1) | (injection h1 with h1; simp only [Prod.mk.injEq] at h1; obtain ⟨_, rfl, _⟩ := h1; exact .put (hd d he) _ _) | (cases h1; done))
      · cases h1
    · cases h1
  | none =>
    have h1 : stepX X c B k gi o s h = some (l, s', hn) := h1
    unfold stepX at h1
    split at h1
    · split at h1
      · rename_i d he
        split at h1
        · injection h1 with h1; simp only [Prod.mk.injEq] at h1; obtain ⟨_, rfl, _⟩ := h1
          exact .put (hd d he) _ _
        · cases h1
      · cases h1
    · split at h1
      · split at h1
        · split at h1
          · split at h1
            · injection h1 with h1; simp only [Prod.mk.injEq] at h1; obtain ⟨_, rfl, _⟩ := h1
              exact putR_kp hd _
            · cases h1
          · split at h1
            · split at h1
              · injection h1 with h1; simp only [Prod.mk.injEq] at h1; obtain ⟨_, rfl, _⟩ := h1
                exact putR_kp hd _
              · cases h1
            · cases h1
          · cases h1
        · cases h1
      · split at h1
        · rename_i cb s2 h2 hg ha
          injection h1 with h1; simp only [Prod.mk.injEq] at h1; obtain ⟨_, rfl, _⟩ := h1
          unfold aX at ha
          split at ha
          · split at ha
            · rename_i d v he hx
              split at ha
              · injection ha with ha; simp only [Prod.mk.injEq] at ha; obtain ⟨_, rfl, _⟩ := ha
                exact .put (hd d he) _ _
              · cases ha
            · cases ha
          · split at ha
            · rename_i d ty he hx
              split at ha
              · split at ha
                · injection ha with ha; simp only [Prod.mk.injEq] at ha; obtain ⟨_, rfl, _⟩ := ha
                  exact .put (hd d he) _ _
                · cases ha
              · cases ha
            · cases ha
          · split at ha
            · rw [stX_kp ha]; exact .refl _ _
            · cases ha
          · split at ha
            · rename_i d he
              split at ha
              · obtain ⟨v, e⟩ := bsX_kp ha
                rw [e]; exact .put (hd d he) _ _
              · cases ha
            · cases ha
          · rename_i x y t t' ho
            split at ha
            · rename_i d v1 v2 he hx hy
              split at ha
              · rcases apX_kp ha with ⟨v, id, e⟩ | ⟨tt, u, v, id, ex, e⟩
                · rw [e]; exact (Kp.drop _ id s).trans (.put (hd d he) _ _)
                · rw [e]
                  have hm : tt ∈ modO o := by unfold modO; rw [ho, ex, he]; simp
                  exact ((Kp.put hm u s).trans (Kp.drop _ id _)).trans (.put (hd d he) _ _)
              · cases ha
            · cases ha
          · cases ha
        · cases h1
section
variable {X : Fx} {c : Cs} {lit gi : Bool} {rid : Option Nat} {g : Nat → Bool} {live kn : List Nat} {ih : List Nat → Slots → Hp → Rn} {l : List Oper}
theorem openR_ok (hX : X.tab = E.tab) (he : EqT E X.eqs) (hc : CsOk E c) {P : Slots → Hp → Prop} (hp : (openR X c B k gi rid o ih kn s h).post h (WK K)) (hih : ∀ kn s h, (ih kn s h).post h (WK K) → P s h) :
    Ef E k B gi s h o P ∧ (effO o.op = false → ∃ d v, o.dst = some d ∧ Nat.blt d k = true ∧ P ((d, v) :: s) h ∧ Yl (rdO o.op) E k B s h o v) := by
  unfold openR at hp
  split at hp
  · rename_i l s' h' hst
    have hq : obsL l ∧ P s' (h'.getD h) := by
      rw [frS1_eq] at hp
      split at hp
      · obtain ⟨q1, q2⟩ := Rn.post_pre hp
        exact ⟨q1, hih _ _ _ q2⟩
      · rw [frH_eq] at hp
        obtain ⟨q1, q2⟩ := Rn.post_pre hp
        exact ⟨q1, hih _ _ _ q2⟩
    obtain ⟨q1, q2⟩ := hq
    obtain ⟨e1, e2⟩ := stepA_ok (E := E) hX he hc hst q1
    refine ⟨e1.mono fun s2 h2 ⟨g1, g2⟩ => by subst g1; subst g2; exact q2, fun heff => ?_⟩
    obtain ⟨d, v, g1, g2, g3, g4, g5⟩ := e2 heff
    subst g3; subst g4
    exact ⟨d, v, g1, g2, q2, g5⟩
  · split at hp <;> exact hp.elim
theorem shutR_ok {P : Slots → Hp → Prop} (hp : (shutR k o ih kn s h).post h (WK K)) (hih : ∀ kn s h, (ih kn s h).post h (WK K) → P s h) : ∃ d, o.dst = some d ∧ Nat.blt d k = true ∧ P ((d, .tup []) :: s) h := by
  unfold shutR at hp
  split at hp
  · rename_i d hd
    split at hp
    · rename_i hk
      exact ⟨d, hd, hk, hih _ _ _ hp⟩
    · exact hp.elim
  · exact hp.elim
theorem modL_mem {ops : List Oper} {o : Oper} (h : o ∈ ops) : ∀ t, t ∈ modO o → t ∈ modL ops := by
  induction ops with
  | nil => cases h
  | cons p r ih =>
    intro t ht
    have e : modL (p :: r) = modO p ++ modL r := rfl
    rw [e, List.mem_append]
    rcases List.mem_cons.1 h with rfl | h
    · exact .inl ht
    · exact .inr (ih h t ht)
theorem ySlot_mem {ops : List Oper} {j dj : Nat} (h : ySlot ops j = some dj) : dj ∈ modL ops := by
  unfold ySlot at h
  split at h
  · rename_i o ho
    rw [getN_eq] at ho
    exact modL_mem (List.mem_of_getElem? ho) _ (modO_dst h)
  · cases h
/-- What comes behind keeps what isn't assigned. -/
def KpI (ms : List Nat) (ih : List Nat → Slots → Hp → Rn) : Prop := ∀ kn s h, (ih kn s h).kp ms s
theorem openR_kp {ms : List Nat} (hm : ∀ t, t ∈ modO o → t ∈ ms) (hk : KpI ms ih) (kn : List Nat) (s : Slots) (h : Hp) : (openR X c B k gi rid o ih kn s h).kp ms s := by
  unfold openR
  split
  · rename_i l s' h' hst
    have k0 := (stepA_kp hst).mono hm
    rw [frS1_eq]
    split
    · exact Rn.pre_kp k0 (hk _ _ _)
    · rw [frH_eq]; exact Rn.pre_kp k0 (hk _ _ _)
  · split <;> trivial
theorem shutR_kp {ms : List Nat} (hm : ∀ t, t ∈ modO o → t ∈ ms) (hk : KpI ms ih) (kn : List Nat) (s : Slots) (h : Hp) : (shutR k o ih kn s h).kp ms s := by
  unfold shutR
  split
  · rename_i d hd
    split
    · have := hk kn ((d, .tup []) :: s) h
      generalize ih kn ((d, .tup []) :: s) h = r at this
      cases r with
      | bad i => trivial
      | ok => exact (Kp.put (hm _ (modO_dst hd)) _ _).trans this
    · trivial
  · trivial
theorem Rn.kp_of {ms : List Nat} {s0 : Slots} {r : Rn} (k0 : Kp ms s s0) (k : r.kp ms s0) : r.kp ms s := by
  cases r with
  | bad i => trivial
  | ok => exact k0.trans k
theorem stepG_kp {ops : List Oper} (ho : o ∈ ops) (hk : KpI (modL ops) ih) (kn : List Nat) (s : Slots) (h : Hp) : (stepG X c B k lit ops (modL ops) gi rid live o ih kn s h).kp (modL ops) s := by
  have hm := modL_mem ho
  unfold stepG
  split
  · exact openR_kp hm hk _ _ _
  · split
    · rename_i dj hj
      have hdj := ySlot_mem hj
      split
      · split
        · have kc : ∀ (r1 r2 : Rn), r1.kp (modL ops) s → r2.kp (modL ops) s → ∀ (w b : Bool), Rn.kp (modL ops) s (match w with | true => cond b r1 r2 | false => cond b r2 r1) := fun r1 r2 h1 h2 w b => by cases w <;> cases b <;> assumption
          exact kc _ _ (openR_kp hm hk _ _ _) (shutR_kp hm hk _ _ _) _ _
        · split
          · exact Rn.mrg_kp (Rn.kp_of (Kp.put hdj _ _) (openR_kp hm hk _ _ _))
          · exact Rn.mrg_kp (Rn.kp_of (Kp.put hdj _ _) (shutR_kp hm hk _ _ _))
      · split
        · exact shutR_kp hm hk _ _ _
        · trivial
      · trivial
    · trivial
/-- A guard's three ways: R holds where the guard's answer is told, and of less. -/
theorem stepG_ok {ops : List Oper} {R : Slots → Prop} (hin : o ∈ ops) (hki : KpI (modL ops) ih) (hp : (stepG X c B k lit ops (modL ops) gi rid live o ih kn s h).post h (WK K))
    (hR : ∀ s1, SLe s s1 → R s1 → R s)
    (ho : ∀ kn s1, Wants s1 ops.toArray o true → (openR X c B k gi rid o ih kn s1 h).post h (WK K) → R s1)
    (hs : ∀ kn s1, NotW E k B s1 h ops.toArray o → (shutR k o ih kn s1 h).post h (WK K) → R s1) : R s := by
  unfold stepG at hp
  split at hp
  · rename_i hg
    exact ho _ s (.none hg) hp
  · rename_i j want hg
    split at hp
    · rename_i dj hj0
      have hdj := ySlot_mem hj0
      have hj := hj0
      rw [ySlot_eq] at hj
      have hm := modL_mem hin
      have ko : ∀ kn v h, (openR X c B k gi rid o ih kn ((dj, v) :: s) h).kp (modL ops) s := fun kn v h => Rn.kp_of (Kp.put hdj _ _) (openR_kp hm hki _ _ _)
      have ks : ∀ kn v h, (shutR k o ih kn ((dj, v) :: s) h).kp (modL ops) s := fun kn v h => Rn.kp_of (Kp.put hdj _ _) (shutR_kp hm hki _ _ _)
      rw [lkr_eq] at hp
      split at hp
      · rename_i b hb
        split at hp
        · cases want
          · cases b
            · exact ho _ s (.open hg hj hb rfl) hp
            · exact hs _ s (.wants (.shut hg hj hb rfl)) hp
          · cases b
            · exact hs _ s (.wants (.shut hg hj hb rfl)) hp
            · exact ho _ s (.open hg hj hb rfl) hp
        · cases want
          · obtain ⟨h1, h2⟩ := Rn.mrg_post (ks _ _ _) (ko _ _ _) hp
            cases hbb : b
            · exact hR _ (SLe.known hb hbb) (ho _ _ (.open hg hj (lk_here _ _ _) rfl) (h2 hbb))
            · exact hR _ (SLe.known hb hbb) (hs _ _ (.wants (.shut hg hj (lk_here _ _ _) rfl)) (h1 hbb))
          · obtain ⟨h1, h2⟩ := Rn.mrg_post (ko _ _ _) (ks _ _ _) hp
            cases hbb : b
            · exact hR _ (SLe.known hb hbb) (hs _ _ (.wants (.shut hg hj (lk_here _ _ _) rfl)) (h2 hbb))
            · exact hR _ (SLe.known hb hbb) (ho _ _ (.open hg hj (lk_here _ _ _) rfl) (h1 hbb))
      · rename_i hb
        split at hp
        · exact hs _ s (.off hg hj hb) hp
        · exact hp.elim
      · exact hp.elim
    · exact hp.elim
theorem TO.wants {ops : Array Oper} (hw : Wants s ops o true) (t : TO E k B ops ({ o with guard := none } :: rest) s h Q) : TO E k B ops (o :: rest) s h Q := by
  rcases hw with ⟨hg, _⟩ | ⟨j, want, dj, b, h1, h2, h3, h4⟩
  · obtain ⟨a1, a2, a3, a4, a5, a6⟩ := o
    dsimp only at hg
    subst hg; exact t
  · exact TO.open h1 h2 h3 (by cases b <;> cases want <;> first | rfl | cases h4) t
theorem TO.wantsNot {ops : Array Oper} (hw : NotW E k B s h ops o) (hd : o.dst = some d) (hk : Nat.blt d k = true) (t : TO E k B ops rest ((d, .tup []) :: s) h Q) : TO E k B ops (o :: rest) s h Q := fun U m a w r => by
  unfold wpList
  rw [if_neg (by simp [hw U m a w r]), hd]
  exact t U m _ w (r.put hk .off)
theorem runO_kp (ops : List Oper) : ∀ (l : List Oper), (∀ o ∈ l, o ∈ ops) → KpI (modL ops) (runO X c B k lit ops live l)
  | [], _ => fun kn s h => Kp.trim _ s live
  | o :: r, hl => fun kn s h => stepG_kp (hl o List.mem_cons_self) (runO_kp ops r fun o ho => hl o (List.mem_cons_of_mem _ ho)) kn s h
/-- Operations in the text's order. -/
theorem runO_TO (hX : X.tab = E.tab) (he : EqT E X.eqs) (hc : CsOk E c) (ops : List Oper) : ∀ (l : List Oper), (∀ o ∈ l, o ∈ ops) → ∀ (kn : List Nat) (s : Slots) (h : Hp), (runO X c B k lit ops live l kn s h).post h (WK (Q .normal)) → TO E k B ops.toArray l s h Q
  | [], _, kn, s, h, hp => by
    obtain ⟨_, s', h', q2, q3, q4⟩ := hp
    exact TO.leS (TO.nil q4) ((SLe.of (trimS_le s live)).trans q2) q3
  | o :: r, hl, kn, s, h, hp => by
    have hr : ∀ o ∈ r, o ∈ ops := fun o ho => hl o (List.mem_cons_of_mem _ ho)
    have ih := runO_TO hX he hc ops r hr
    refine stepG_ok (E := E) (hin := hl o List.mem_cons_self) (hki := runO_kp ops r hr) (R := fun s => TO E k B ops.toArray (o :: r) s h Q) (K := Q .normal) (hp : (stepG X c B k lit ops (modL ops) false none live o (runO X c B k lit ops live r) kn s h).post h (WK (Q .normal))) (fun s1 l t => TO.leS t l (.refl _)) (fun kn s1 hw q => ?_) (fun kn s1 hw q => ?_)
    · exact TO.wants hw (TO.ef (g := false) rfl (openR_ok hX he hc q ih).1)
    · obtain ⟨d, hd, hk, t⟩ := shutR_ok q ih
      exact TO.wantsNot hw hd hk t
/-- An operation of some, and then the rest. -/
def TB (E : Env) (k B : Nat) (ops : Array Oper) (g : Nat → Bool) (n : Nat) (listed : Array Bool) (i : Nat) (s : Slots) (h : Hp) (Q : Post) : Prop :=
  ∀ U m a w, SR k B U m s h a w → wpOp E.P ops (RP k B U m h w Q) i (fun a' w' => (g i = true → Same0 w w') ∧ wpAnyK E.P ops (RP k B U m h w Q) g n (listed.setIfInBounds i true) a' w') a w
theorem TB.leS {ops : Array Oper} {n i : Nat} {listed : Array Bool} (t : TB E k B ops g n listed i s' h' Q) (hs : SLe s s') (hh : HLe h h') : TB E k B ops g n listed i s h Q := fun U m a w r => by
  obtain ⟨r1, st⟩ := (r.sle hs).leH hh
  exact wpOp_monoQ (fun a2 w2 q => ⟨q.1, wpAnyK_mono (fun e a3 w3 q => RP_trans st q) _ _ _ _ q.2⟩) (fun e a2 w2 q => RP_trans st q) (t U m a w r1)
theorem TB.ef {ops : Array Oper} {n i : Nat} {listed : Array Bool} (hi : ops[i]? = some o) (e : Ef E k B (g i) s h o (fun s' h' => TA E k B ops g n (listed.setIfInBounds i true) s' h' Q)) (hw : Wants s ops o true) : TB E k B ops g n listed i s h Q := fun U m a w r => by
  unfold wpOp
  simp only [hi, r.wants hw, if_true]
  exact .inl (e U m a w _ _ r fun a' w' U' m' s' h' q r1 st hs => ⟨hs, wpAnyK_mono (fun e a2 w2 q => RP_trans st q) _ _ _ _ (q U' m' a' w' r1)⟩)
theorem TA.shutN {g : Nat → Bool} {n : Nat} {listed : Array Bool} (i : Nat) (hi : ops[i]? = some o) (hw : NotW E k B s h ops o) (hd : o.dst = some d) (hk : Nat.blt d k = true) (hP : NoPanic Q) (hsel : Region.noSelect ops = true) (hf : Region.free .any ops listed i = true)
    (hr : (Region.ready .any ops listed).contains i = true) (t : TA E k B ops g n (listed.setIfInBounds i true) ((d, .tup []) :: s) h Q) : TA E k B ops g (n + 1) listed s h Q := fun U m a w r => by
  refine wpAnyK_first (ρ := false) (v := undef) hi hsel (RP.noPanic hP) n listed a w (fun j oj hj hne hun hno => ⟨Region.free_spec hi hf j oj hj hne hun hno, fun hρ => by cases hρ⟩) (by simpa using hr) (.inr ⟨hw U m a w r, rfl⟩) ?_
  rw [hd]; exact t U m _ w (r.put hk .off)
theorem TB.shut {ops : Array Oper} {n i : Nat} {listed : Array Bool} (hi : ops[i]? = some o) (hw : NotW E k B s h ops o) (hd : o.dst = some d) (hk : Nat.blt d k = true) (t : TA E k B ops g n (listed.setIfInBounds i true) ((d, .tup []) :: s) h Q) : TB E k B ops g n listed i s h Q := fun U m a w r => by
  unfold wpOp
  simp only [hi, hw U m a w r]
  rw [if_neg (by simp), hd]
  exact ⟨fun _ => .refl w, t U m _ w (r.put hk .off)⟩
theorem TA.of_B {ops : Array Oper} {n : Nat} {listed : Array Bool} (hne : Region.ready .any ops listed ≠ []) (t : ∀ i ∈ Region.ready .any ops listed, TB E k B ops g n listed i s h Q) : TA E k B ops g (n + 1) listed s h Q := fun U m a w r =>
  ⟨fun e => absurd e hne, fun i hi => t i hi U m a w r⟩
theorem Rn.both_post {r1 r2 : Rn} (hp : (Rn.both r1 r2).post h K) : r1.post h K ∧ r2.post h K := by
  cases r1 with
  | bad i => exact hp.elim
  | ok l1 s1 h1 k1 =>
  cases r2 with
  | bad i => exact hp.elim
  | ok l2 s2 h2 k2 =>
  obtain ⟨q1, q2⟩ := hp
  obtain ⟨q3, q4⟩ := obsL_cons q1
  unfold Ob.all at q3
  rw [appO_eq] at q4
  obtain ⟨q4, q5⟩ := obsL_app q4
  obtain ⟨rfl, rfl⟩ := q3
  exact ⟨⟨q4, q2⟩, q5, q2⟩
section
variable (hX : X.tab = E.tab) (he : EqT E X.eqs) (hc : CsOk E c) (ops : List Oper) (rd : Nat → Option Nat) (hP : NoPanic Q) (hs : Region.noSelect ops.toArray = true)
include hX he hc hP hs
omit hX he hc hP hs in
theorem runT_kp : ∀ (x : OT), KpI (modL ops) (runT X c B k lit ops g rd live x)
  | .done => fun kn s h => Kp.trim _ s live
  | .one i t => fun kn s h => by
    show (match getN ops i with | some o => stepG X c B k lit ops (modL ops) (g i) (rd i) live o (runT X c B k lit ops g rd live t) kn s h | none => Rn.bad 1003).kp (modL ops) s
    split
    · rename_i o ho
      rw [getN_eq] at ho
      exact stepG_kp (List.mem_of_getElem? ho) (runT_kp t) kn s h
    · trivial
  | .alt x y => fun kn s h => Rn.both_kp (runT_kp x kn s h)
theorem runT_ok : ∀ (x : OT) (n : Nat) (listed : Array Bool) (kn : List Nat) (s : Slots) (h : Hp), (runT X c B k lit ops g rd live x kn s h).post h (WK (Q .normal)) →
    (okOT ops g x n listed = true → TA E k B ops.toArray g n listed s h Q) ∧ (∀ n', n = n' + 1 → okOB ops g x n listed = true → ∀ i ∈ x.heads, TB E k B ops.toArray g n' listed i s h Q) := by
  intro x
  induction x with
  | done =>
    intro n listed kn s h hp
    obtain ⟨_, s', h', q2, q3, q4⟩ := hp
    refine ⟨fun hok => TA.leS (TA.done ?_ q4) ((SLe.of (trimS_le s live)).trans q2) q3, fun n' e hok => ?_⟩
    · cases n <;> simpa [okOT] using hok
    · subst e; simp [okOB] at hok
  | one i t ih =>
    intro n listed kn s h hp
    have hp' : (match getN ops i with | some o => stepG X c B k lit ops (modL ops) (g i) (rd i) live o (runT X c B k lit ops g rd live t) kn s h | none => Rn.bad 1003).post h (WK (Q .normal)) := hp
    cases hi : getN ops i with
    | none => rw [hi] at hp'; exact hp'.elim
    | some o =>
    rw [hi] at hp'
    have hp' : (stepG X c B k lit ops (modL ops) (g i) (rd i) live o (runT X c B k lit ops g rd live t) kn s h).post h (WK (Q .normal)) := hp'
    have hia := get_toArray ops i hi
    have hmem : o ∈ ops := by rw [getN_eq] at hi; exact List.mem_of_getElem? hi
    have hkp : KpI (modL ops) (runT X c B k lit ops g rd live t) := runT_kp ops rd t
    have tb : ∀ n', okOT ops g t n' (listed.setIfInBounds i true) = true → TB E k B ops.toArray g n' listed i s h Q := fun n' hok => by
      have ih' : ∀ kn s h, (runT X c B k lit ops g rd live t kn s h).post h (WK (Q .normal)) → TA E k B ops.toArray g n' (listed.setIfInBounds i true) s h Q := fun kn s h q => (ih n' _ kn s h q).1 hok
      refine stepG_ok (E := E) (hin := hmem) (hki := hkp) (R := fun s => TB E k B ops.toArray g n' listed i s h Q) (K := Q .normal) hp' (fun s1 l t => TB.leS t l (.refl _)) (fun kn s1 hw q => ?_) (fun kn s1 hw q => ?_)
      · exact TB.ef hia (openR_ok hX he hc q ih').1 hw
      · obtain ⟨d, hd, hk, t⟩ := shutR_ok q ih'
        exact TB.shut hia hw hd hk t
    refine ⟨fun hok => ?_, fun n' e hok => ?_⟩
    · cases n with
      | zero => simp [okOT] at hok
      | succ n' =>
      simp only [okOT, hi, Bool.and_eq_true, Bool.or_eq_true] at hok
      obtain ⟨hok1, hok2⟩ := hok
      rcases hok1 with hok1 | hok1
      · simp only [beq_iff_eq] at hok1
        refine TA.of_B (by rw [hok1]; simp) (fun j hj => ?_)
        rw [hok1] at hj
        simp only [List.mem_singleton] at hj
        subst hj
        exact tb n' hok2
      · cases heff : effO o.op
        · simp only [heff, Bool.and_eq_true] at hok1
          have ih' : ∀ kn s h, (runT X c B k lit ops g rd live t kn s h).post h (WK (Q .normal)) → TA E k B ops.toArray g n' (listed.setIfInBounds i true) s h Q := fun kn s h q => (ih n' _ kn s h q).1 hok2
          refine stepG_ok (E := E) (hin := hmem) (hki := hkp) (R := fun s => TA E k B ops.toArray g (n' + 1) listed s h Q) (K := Q .normal) hp' (fun s1 l t => TA.leS t l (.refl _)) (fun kn s1 hw q => ?_) (fun kn s1 hw q => ?_)
          · obtain ⟨d, v, hd, hk, t, y⟩ := (openR_ok hX he hc q ih').2 heff
            exact TA.take (ρ := rdO o.op) i hia y hw hd hk hP hs hok1.1.1 hok1.1.2 hok1.2 t
          · obtain ⟨d, hd, hk, t⟩ := shutR_ok q ih'
            exact TA.shutN i hia hw hd hk hP hs hok1.1.1 hok1.1.2 t
        · simp [heff] at hok1
    · subst e
      simp only [okOB] at hok
      intro j hj
      simp only [OT.heads, List.mem_singleton] at hj
      subst hj
      exact tb n' hok
  | alt x y ihx ihy =>
    intro n listed kn s h hp
    have hp' : (Rn.both (runT X c B k lit ops g rd live x kn s h) (runT X c B k lit ops g rd live y kn s h)).post h (WK (Q .normal)) := hp
    obtain ⟨p1, p2⟩ := Rn.both_post hp'
    have hb : ∀ n', n = n' + 1 → (okOB ops g x n listed = true ∧ okOB ops g y n listed = true) → ∀ i ∈ (OT.alt x y).heads, TB E k B ops.toArray g n' listed i s h Q := fun n' e hok i hi => by
      simp only [OT.heads, List.mem_append] at hi
      rcases hi with hi | hi
      · exact (ihx n listed kn s h p1).2 n' e hok.1 i hi
      · exact (ihy n listed kn s h p2).2 n' e hok.2 i hi
    refine ⟨fun hok => ?_, fun n' e hok => ?_⟩
    · cases n with
      | zero => simp [okOT] at hok
      | succ n' =>
      simp only [okOT, Bool.and_eq_true, List.all_eq_true] at hok
      obtain ⟨hok1, hok2, hok3⟩ := hok
      refine TA.of_B (fun e => by rw [e] at hok2; simp at hok2) (fun j hj => hb n' rfl hok3 j ?_)
      have := hok1 j hj
      simpa [OT.heads] using this
    · subst e
      simp only [okOB, Bool.and_eq_true] at hok
      exact hb n' rfl hok
end
end
end
end Go.Proofs.Ytmgckodihnmjoaa
