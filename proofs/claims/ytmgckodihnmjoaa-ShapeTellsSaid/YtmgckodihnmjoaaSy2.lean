/-
  The logic's judgements: of code, of operations, of calls; its rules for code. Conditions: none.
-/
import Derived.Test.YtmgckodihnmjoaaSy
import Derived.LoopN
set_option linter.unusedVariables false
set_option linter.unusedSimpArgs false
set_option maxRecDepth 20000
namespace Go.Proofs.Ytmgckodihnmjoaa
open Go.RowKit

/-- What is known of a type. -/
structure Ty where
  d : TypeDesc
  size : Nat
  bytes : Nat
  zero : Option Value

def TyOk (P : Program) (t : TypeId) (ty : Ty) : Prop := P.underlying t = some ty.d ∧ ∃ i, P.info? t = some i ∧ i.size = ty.size ∧ i.bytes = ty.bytes ∧ i.zero = ty.zero

/-- The program, and what is known of it. -/
structure Env where
  P : Program
  tab : List (Nat × Ty)
  ok : ∀ t ty, lk tab t = some ty → TyOk P t ty
  mixed : P.follows .mixedOrders = true

theorem tab_ok {P : Program} {tab : List (Nat × Ty)} (h : ∀ p ∈ tab, TyOk P p.1 p.2) : ∀ t ty, lk tab t = some ty → TyOk P t ty := fun _ _ h1 => h _ (lk_mem h1)

abbrev Post := Exit → Slots → Hp → Prop

/-- What the real state is behind code that the judgement speaks of. -/
def RP (k B : Nat) (U : Nat → Prop) (m : Nat → Option Nat) (h : Hp) (w : World) (Q : Post) : Exit → Act → World → Prop := fun e a' w' =>
  ∃ U' m' s' h', Q e s' h' ∧ SR k B U' m' s' h' a' w' ∧ Stp B U m h.n h.b w U' m' h'.n h'.b w'

/-- Code from a symbolic state on. -/
def T (E : Env) (k B : Nat) (c : Code) (s : Slots) (h : Hp) (Q : Post) : Prop :=
  ∀ U m a w, SR k B U m s h a w → c.wp E.P (RP k B U m h w Q) a w

/-- Operations in the text's order. -/
def TO (E : Env) (k B : Nat) (ops : Array Oper) (l : List Oper) (s : Slots) (h : Hp) (Q : Post) : Prop :=
  ∀ U m a w, SR k B U m s h a w → wpList E.P ops (RP k B U m h w Q) l a w

structure VRs (U : Nat → Prop) (m : Nat → Option Nat) (n : Nat) (w : World) (l : List V) (vs : Array Value) : Prop where
  len : l.length = vs.size
  at_ : ∀ (j : Nat) (x : V) (v : Value), l[j]? = some x → vs[j]? = some v → VR U m n w x v

/-- A call of a function. -/
def Call (E : Env) (f : FuncId) (args : List V) (h : Hp) (Q : V → Hp → Prop) : Prop :=
  ∀ U m w vs, HR U m h.n h.b w → VRs U m h.n w args vs → Calls E.P f vs w fun e w' =>
    ∃ r R U' m' h', e = .returned R ∧ Q r h' ∧ VR U' m' h'.n w' r R ∧ HR U' m' h'.n h'.b w' ∧ Stp h.n U m h.n h.b w U' m' h'.n h'.b w'

section
variable {E : Env} {k B : Nat} {s s' : Slots} {h h' : Hp} {Q Q' : Post}

theorem RP_trans {U U' : Nat → Prop} {m m' : Nat → Option Nat} {h' : Hp} {w w' : World} (st : Stp B U m h.n h.b w U' m' h'.n h'.b w') {e : Exit} {a : Act} {w2 : World}
    (r : RP k B U' m' h' w' Q e a w2) : RP k B U m h w Q e a w2 := by
  obtain ⟨U2, m2, s2, h2, q, r2, st2⟩ := r
  exact ⟨U2, m2, s2, h2, q, r2, st.trans st2⟩
theorem T.mono {c : Code} (t : T E k B c s h Q) (hq : ∀ e s h, Q e s h → Q' e s h) : T E k B c s h Q' := fun U m a w r =>
  wp_mono (t U m a w r) fun e a' w' ⟨U', m', s', h', q, rest⟩ => ⟨U', m', s', h', hq _ _ _ q, rest⟩
theorem T.le {c : Code} (t : T E k B c s' h Q) (hl : Le s s') : T E k B c s h Q := fun U m a w r => t U m a w (r.le hl)
theorem T.skip (q : Q .normal s h) : T E k B .skip s h Q := fun U m a w r => wp_skip ⟨U, m, s, h, q, r, .refl ..⟩
theorem T.label {l : Nat} (q : Q .normal s h) : T E k B (.label l) s h Q := fun U m a w r => wp_label ⟨U, m, s, h, q, r, .refl ..⟩
theorem T.exit {id : Nat} (q : Q (.exit id) s h) : T E k B (.exit id) s h Q := fun U m a w r => wp_exit ⟨U, m, s, h, q, r, .refl ..⟩
theorem T.goto {l : Nat} (q : Q (.goto l) s h) : T E k B (.goto l) s h Q := fun U m a w r => wp_goto ⟨U, m, s, h, q, r, .refl ..⟩
theorem T.ret (q : Q .ret s h) : T E k B .ret s h Q := fun U m a w r => wp_ret ⟨U, m, s, h, q, r, .refl ..⟩

def thenP (n : Slots → Hp → Prop) (Q : Post) : Post
  | .normal, s, h => n s h
  | e, s, h => Q e s h
theorem thenP_normal (n : Slots → Hp → Prop) (Q : Post) (s : Slots) (h : Hp) : thenP n Q .normal s h = n s h := rfl
theorem thenP_ret (n : Slots → Hp → Prop) (Q : Post) (s : Slots) (h : Hp) : thenP n Q .ret s h = Q .ret s h := rfl
theorem thenP_exit (n : Slots → Hp → Prop) (Q : Post) (i : Nat) (s : Slots) (h : Hp) : thenP n Q (.exit i) s h = Q (.exit i) s h := rfl
theorem T.seq {x y : Code} (t : T E k B x s h (thenP (fun s' h' => T E k B y s' h' Q) Q)) : T E k B (.seq x y) s h Q := fun U m a w r =>
  wp_seq (wp_mono (t U m a w r) fun e a' w' ⟨U', m', s', h', q, r', st⟩ => by
    cases e with
    | normal => exact wp_mono (q U' m' a' w' r') fun e a2 w2 h2 => RP_trans st h2
    | _ => exact ⟨U', m', s', h', q, r', st⟩)
theorem SR.tmp {U : Nat → Prop} {m : Nat → Option Nat} {a : Act} {w : World} (r : SR k B U m s h a w) {t : Nat} {v : V} (hv : lk s t = some v) : VR U m h.n w v (a.eval (.tmp t)) := by
  obtain ⟨x, h1, h2⟩ := r.slots t v hv
  show VR U m h.n w v (a.tmps.getD t undef)
  rw [Array.getD_eq_getD_getElem?, h1]; exact h2
theorem T.cond {t : Nat} {b : Bool} {x y : Code} (hb : lk s t = some (vb b)) (ht : b = true → T E k B x s h Q) (hf : b = false → T E k B y s h Q) : T E k B (.cond (.tmp t) x y) s h Q := fun U m a w r => by
  have h1 := r.tmp hb
  generalize hv : a.eval (.tmp t) = v at h1
  cases h1 with | d h1 =>
  cases h1
  exact wp_cond_split hv (fun e => ht e U m a w r) (fun e => hf e U m a w r)
theorem T.cond_const {b : Bool} {x y : Code} (ht : b = true → T E k B x s h Q) (hf : b = false → T E k B y s h Q) : T E k B (.cond (.const (.bool b)) x y) s h Q := fun U m a w r =>
  wp_cond_split (t := b) rfl (fun e => ht e U m a w r) (fun e => hf e U m a w r)
def inBlockP (id : Nat) (Q : Post) : Post
  | .exit id', s, h => if id' = id then Q .normal s h else Q (.exit id') s h
  | e, s, h => Q e s h
theorem T.block {id : Nat} {c : Code} (t : T E k B c s h (inBlockP id Q)) : T E k B (.block id c) s h Q := fun U m a w r =>
  wp_block (wp_mono (t U m a w r) fun e a' w' ⟨U', m', s', h', q, r', st⟩ => by
    cases e with
    | exit i =>
      simp only [inBlockP] at q
      simp only [Exit.inBlock]
      split
      · rename_i hi; rw [if_pos hi] at q; exact ⟨U', m', s', h', q, r', st⟩
      · rename_i hi; rw [if_neg hi] at q; exact ⟨U', m', s', h', q, r', st⟩
    | _ => exact ⟨U', m', s', h', q, r', st⟩)
theorem rounds_mono {P : Program} {c : Code} {R R' : Exit → Act → World → Prop} (hq : ∀ e a w, R e a w → R' e a w) : ∀ n a w, Code.rounds P c R n a w → Code.rounds P c R' n a w
  | 0, _, _, h => h
  | n + 1, a, w, h => by
    rw [rounds_succ] at h ⊢
    refine wp_mono h fun e a' w' q => ?_
    cases e with
    | normal => exact rounds_mono hq n _ _ q
    | _ => exact hq _ _ _ q
/-- A loop: the states of its head are named. -/
theorem T.loop {α : Type} (S : α → Slots) (H : α → Hp) (I : α → Prop) (μ : α → Nat) {c : Code} (x : α) (hl : Le s (S x)) (hh : h = H x) (hI : I x)
    (round : ∀ x, I x → T E k B c (S x) (H x) (thenP (fun s' h' => ∃ y, I y ∧ μ y < μ x ∧ Le s' (S y) ∧ h' = H y) Q)) : T E k B (.loop c) s h Q := by
  subst hh
  have key : ∀ n x, μ x < n → I x → ∀ U m a w, SR k B U m (S x) (H x) a w → Code.rounds E.P c (RP k B U m (H x) w Q) n a w := by
    intro n
    induction n with
    | zero => intro x hx; omega
    | succ n ih =>
      intro x hx hI U m a w r
      rw [rounds_succ]
      refine wp_mono (round x hI U m a w r) fun e a' w' ⟨U', m', s', h', q, r', st⟩ => ?_
      cases e with
      | normal =>
        obtain ⟨y, hy, hm, hl, rfl⟩ := q
        have := ih y (by omega) hy U' m' a' w' (r'.le hl)
        refine rounds_mono ?_ _ _ _ this
        exact fun e a2 w2 h2 => RP_trans st h2
      | _ => exact ⟨U', m', s', h', q, r', st⟩
  exact fun U m a w r => wp_loop_rounds (μ x + 1) (key _ x (by omega) hI U m a w (r.le hl))
theorem T.of_region {id : Nat} {l : List Oper} (t : TO E k B l.toArray l s h Q) : T E k B (.region id l.toArray false) s h Q := fun U m a w r => wp_region_lit (t U m a w r)
theorem TO.nil {ops : Array Oper} (q : Q .normal s h) : TO E k B ops [] s h Q := fun U m a w r => wpList_nil ⟨U, m, s, h, q, r, .refl ..⟩
theorem TO.le {ops : Array Oper} {l : List Oper} (t : TO E k B ops l s' h Q) (hl : Le s s') : TO E k B ops l s h Q := fun U m a w r => t U m a w (r.le hl)
end
end Go.Proofs.Ytmgckodihnmjoaa
