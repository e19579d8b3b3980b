/-
  The reckoner in a proof: code by its place, loops. Conditions: none.
-/
import Derived.Test.YtmgckodihnmjoaaX13
set_option linter.unusedVariables false
set_option linter.unusedSimpArgs false
set_option maxRecDepth 20000
namespace Go.Proofs.Ytmgckodihnmjoaa
open Go.RowKit Oc

/-- A piece of code, by its place: false: the first part, or the body; true: the second part. -/
def childC (c : Code) (b : Bool) : Code :=
  match c with
  | .seq x y => match b with | true => y | false => x
  | .cond _ x y => match b with | true => y | false => x
  | .block _ x => x
  | .loop x => x
  | .scope x => x
  | .rangeFunc _ _ x y => match b with | true => y | false => x
  | c => c
noncomputable def sub (c : Code) (π : List Bool) : Code := List.rec (motive := fun _ => Code → Code) (fun c => c) (fun b _ ih c => ih (childC c b)) π c
theorem sub_nil (c : Code) : sub c [] = c := rfl
theorem sub_app (π : List Bool) (b : Bool) : ∀ c : Code, sub c (π ++ [b]) = childC (sub c π) b := by
  induction π with
  | nil => exact fun c => rfl
  | cons a π ih => exact fun c => ih (childC c a)
def isSeq : Code → Bool
  | .seq _ _ => true
  | _ => false
def isLoop : Code → Bool
  | .loop _ => true
  | _ => false
def blkId : Code → Option Nat
  | .block i _ => some i
  | _ => none
theorem ordC_child {ord : List (Nat × Od)} {c : Code} (b : Bool) (h : ordC ord c = true) : ordC ord (childC c b) = true := by
  cases c <;> cases b <;> first
    | exact h
    | exact (and_split (show (ordC ord _ && ordC ord _) = true from h)).1
    | exact (and_split (show (ordC ord _ && ordC ord _) = true from h)).2
theorem ordC_sub {ord : List (Nat × Od)} (π : List Bool) : ∀ {c : Code}, ordC ord c = true → ordC ord (sub c π) = true := by
  induction π with
  | nil => exact fun h => h
  | cons b π ih => exact fun h => ih (ordC_child b h)
/-- Code from a symbolic state on. -/
structure TS (E : Env) (k B : Nat) (c : Code) (s : Slots) (h : Hp) (Q : Post) : Prop where
  t : T E k B c s h Q

/-- Blocks of which less is known, or that are forgotten. -/
def BSub (b b' : Heap) : Prop := ∀ i y, lk b' i = some (some y) → ∃ x, lk b i = some (some x) ∧ BkLe x y
theorem BSub.nil (b : Heap) : BSub b [] := fun i y h => by simp [lk] at h
theorem BSub.cons {b b' : Heap} {i : Nat} {x y : Blk} (h : lk b i = some (some x)) (l : BkLe x y) (k : BSub b b') : BSub b ((i, some y) :: b') := fun j z hz => by
  rw [lk_cons] at hz
  split at hz
  · rename_i e; subst e; injection hz with hz; injection hz with hz; subst hz
    exact ⟨x, h, l⟩
  · exact k j z hz
theorem SLe.nil (s : Slots) : SLe s [] := fun t v h => by simp [lk] at h
theorem SLe.cons {s r : Slots} {t : Nat} {u v : V} (h : lk s t = some u) (l : VLe u v) (k : SLe s r) : SLe s ((t, v) :: r) := fun j z hz => by
  rw [lk_cons] at hz
  split at hz
  · rename_i e; subst e; injection hz with hz; subst hz
    exact ⟨u, h, l⟩
  · exact k j z hz
section
variable {E : Env} {k B : Nat} {s s' : Slots} {h h' : Hp} {Q Q' : Post} {U : Nat → Prop} {m : Nat → Option Nat} {a : Act} {w : World} {code : Code} {π : List Bool}
/-- A state of which less is known; what names a block that is forgotten is not named any more. -/
structure StLe (B : Nat) (s : Slots) (h : Hp) (s' : Slots) (h' : Hp) : Prop where
  sl : SLe s s'
  bl : BSub h.b h'.b
  ls : lowS h'.n s' = true
  lh : lowH h'.n h'.b = true
  hB : B ≤ h'.n
theorem SR.stle (r : SR k B U m s h a w) (l : StLe B s h s' h') : SR k B U m s' h' a w where
  slots := fun t v hv => by
    obtain ⟨x, hx, hvr⟩ := (r.sle l.sl).slots t v hv
    exact ⟨x, hx, hvr.low (lowS_get l.ls hv)⟩
  size := r.size
  defers := r.defers
  heap := ⟨fun id blk h3 => by
      obtain ⟨x, h4, h5⟩ := l.bl id blk h3
      exact ⟨(lowH_get l.lh h3).1, (h5 _ _ _ _ _ (r.heap.live id x h4).2).low (lowH_get l.lh h3).2⟩,
    fun id blk x h3 h4 => by
      obtain ⟨y, h5, _⟩ := l.bl id blk h3
      exact r.heap.ok id y x h5 h4,
    fun id id' blk blk' x h3 h4 h5 h6 => by
      obtain ⟨y, e1, _⟩ := l.bl id blk h3
      obtain ⟨y', e2, _⟩ := l.bl id' blk' h4
      exact r.heap.inj id id' y y' x e1 e2 h5 h6, r.heap.ulow⟩
  base := l.hB
theorem Stp.stle {U' : Nat → Prop} {m' : Nat → Option Nat} {w' : World} {n n1 n2 : Nat} {b b1 b' : Heap} (st : Stp B U m n b w U' m' n1 b1 w') (hb : BSub b1 b') (hn : n ≤ n2) : Stp B U m n b w U' m' n2 b' w' :=
  { st with hn := hn, own := fun x hx h => st.own x hx (by obtain ⟨id, blk, h1, h2⟩ := h; obtain ⟨y, h3, _⟩ := hb _ _ h1; exact ⟨id, y, h3, h2⟩) }
/-- A round's end: the head's state for another y. -/
structure Again {α : Type} (B : Nat) (S : α → Slots) (H : α → Hp) (I : α → Prop) (μ : α → Nat) (x : α) (s : Slots) (h : Hp) : Prop where
  again : ∃ y, I y ∧ μ y < μ x ∧ (H x).n ≤ (H y).n ∧ StLe B s h (S y) (H y)
/-- A loop. -/
theorem TS.loop {α : Type} (S : α → Slots) (H : α → Hp) (I : α → Prop) (μ : α → Nat) (x : α) (hc : isLoop (sub code π) = true) (hl : StLe B s h (S x) (H x)) (hn : h.n ≤ (H x).n) (hI : I x)
    (round : ∀ x, I x → TS E k B (sub code (π ++ [false])) (S x) (H x) (thenP (Again B S H I μ x) Q)) : TS E k B (sub code π) s h Q := by
  have hb : ∃ c, sub code π = .loop c ∧ sub code (π ++ [false]) = c := by
    rw [sub_app]
    cases hs : sub code π <;> rw [hs] at hc <;> first | exact ⟨_, rfl, rfl⟩ | cases hc
  obtain ⟨c, hc1, hc2⟩ := hb
  rw [hc2] at round
  rw [hc1]
  have key : ∀ n x, μ x < n → I x → ∀ U m a w, SR k B U m (S x) (H x) a w → Code.rounds E.P c (RP k B U m (H x) w Q) n a w := by
    intro n
    induction n with
    | zero => intro x hx; omega
    | succ n ih =>
      intro x hx hI U m a w r
      rw [rounds_succ]
      refine wp_mono ((round x hI).t U m a w r) fun e a' w' ⟨U', m', s', h', q, r', st⟩ => ?_
      cases e with
      | normal =>
        obtain ⟨y, hy, hm, hn, l⟩ := (q : Again B S H I μ x s' h').again
        have := ih y (by omega) hy U' m' a' w' (r'.stle l)
        refine rounds_mono ?_ _ _ _ this
        exact fun e a2 w2 h2 => RP_trans (h' := H y) (st.stle l.bl hn) h2
      | _ => exact ⟨U', m', s', h', q, r', st⟩
  exact ⟨fun U m a w r => by
    refine wp_loop_rounds (μ x + 1) (rounds_mono ?_ _ _ _ (key _ x (by omega) hI U m a w (r.stle hl)))
    exact fun e a2 w2 h2 => RP_trans (h' := H x) ((Stp.refl B U m h.n h.b w).stle hl.bl hn) h2⟩
theorem TS.seq (hc : isSeq (sub code π) = true) (t : TS E k B (sub code (π ++ [false])) s h (thenP (fun s' h' => TS E k B (sub code (π ++ [true])) s' h' Q) Q)) : TS E k B (sub code π) s h Q := by
  have hb : ∃ x y, sub code π = .seq x y ∧ sub code (π ++ [false]) = x ∧ sub code (π ++ [true]) = y := by
    rw [sub_app, sub_app]
    cases hs : sub code π <;> rw [hs] at hc <;> first | exact ⟨_, _, rfl, rfl, rfl⟩ | cases hc
  obtain ⟨x, y, h1, h2, h3⟩ := hb
  rw [h2, h3] at t
  rw [h1]
  refine ⟨T.seq (T.mono t.t fun e s' h' q => ?_)⟩
  cases e with
  | normal => exact TS.t q
  | _ => exact q
theorem TS.block {i : Nat} (hc : blkId (sub code π) = some i) (t : TS E k B (sub code (π ++ [false])) s h (inBlockP i Q)) : TS E k B (sub code π) s h Q := by
  have hb : ∃ x, sub code π = .block i x ∧ sub code (π ++ [false]) = x := by
    rw [sub_app]
    cases hs : sub code π <;> rw [hs] at hc <;> first | (simp only [blkId, Option.some.injEq] at hc; subst hc; exact ⟨_, rfl, rfl⟩) | cases hc
  obtain ⟨x, h1, h2⟩ := hb
  rw [h2] at t
  rw [h1]
  exact ⟨T.block t.t⟩
/-- A piece, reckoned. -/
theorem TS.run {c : Cs} {F : Fi} {eqs : List (Nat × List Kd)} (kn : List Nat) (ho : ordC F.ord code = true) (he : EqT E eqs) (hc : CsOk E c) (hP : NoPanic Q) (hs : (runC (fxOf E.tab eqs F) c F B k (sub code π) kn s h).Sames)
    (t : VC ((runC (fxOf E.tab eqs F) c F B k (sub code π) kn s h).vc h Q)) : TS E k B (sub code π) s h Q :=
  ⟨runC_ok (X := fxOf E.tab eqs F) (c := c) (F := F) rfl he hc _ (ordC_sub π ho) kn s h hP (post_mono (fun e s h q => ⟨s, h, .refl _, .refl _, q⟩) _ (vc_ok _ hs.sm t.p))⟩
/-- A pure function, by its code. -/
theorem Fn.of_TS {f : FuncId} {I : FnI} {args : List V} {r : V} (hI : FnOk E f I) (hle : Nat.ble args.length I.nt = true) (hp : r.pure = true) (ha : pureL args = true)
    (h : rngL args → TS E I.nt 0 (sub I.code []) (argS 0 args) ⟨0, []⟩ (QF E.tab I.res r)) : Fn E f args r := Fn.range hp ha fun hr => by
  obtain ⟨fn, h1, h2, h3, h4⟩ := hI.fn
  exact Fn.of_T h1 h2 h3 hle h4 hp ha (T.mono (h hr).t fun e s h q => q.ok)
theorem QF.noPanic {tab : List (Nat × Ty)} {rs : List ResultVar} {r : V} : NoPanic (QF tab rs r) := fun c s h q => by
  cases (q : Stk 4002)
theorem Again.noPanic {α : Type} {S : α → Slots} {H : α → Hp} {I : α → Prop} {μ : α → Nat} {x : α} (h : NoPanic Q) : NoPanic (thenP (Again B S H I μ x) Q) := NoPanic.thenP h
end
end Go.Proofs.Ytmgckodihnmjoaa
