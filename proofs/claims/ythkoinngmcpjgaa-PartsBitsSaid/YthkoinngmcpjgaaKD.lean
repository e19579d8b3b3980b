/-
  The reckoner: code, functions, loops, tables of what is known. Conditions: none.
-/
import Derived.Test.YthkoinngmcpjgaaKC
/-
  The reckoner: code. Conditions: none.
-/
set_option linter.unusedVariables false
set_option linter.unusedSimpArgs false
set_option maxRecDepth 20000
namespace Go.Proofs.Ythkoinngmcpjgaa
open Go.RowKit

/-- Orders of a region, names that are kept for variables, and what is more than a call of a pure function. -/
structure Od where
  t : OT
  rk : List (Nat × Nat)
  imp : List Nat
/-- What the reckoner is told of a function: what is needed behind a region; the orders of a region that draws its order; rows that stay at hand, cell by cell; numbers that wrap round; how often a loop's rounds are gone through; whether all truth values are plain, or which ones. -/
structure Fi where
  live : List (Nat × List Nat)
  ord : List (Nat × Od)
  hd : List Nat
  wr : List Nat
  unr : Nat
  lit : Bool
  kn : List Nat
/-- What code comes to. The blocks: if they are others than ahead. -/
inductive Oc where
  | ok (e : Exit) (s : Slots) (h : Option Hp) (kn : List Nat)
  | ob (l : List Ob) (x : Oc)
  | br (b : Bool) (x y : Oc)
  | bad (i : Nat)
/-- Stuck. -/
inductive Stk : Nat → Prop
namespace Oc
def post (h : Hp) (Q : Post) : Oc → Prop
  | .ok e s hn _ => Q e s (hn.getD h)
  | .ob l x => obsL l ∧ x.post h Q
  | .br b x y => (b = true → x.post h Q) ∧ (b = false → y.post h Q)
  | .bad _ => False
/-- The same, as it is shown. -/
noncomputable def vc (h : Hp) (Q : Post) (o : Oc) : Prop :=
  Oc.rec (fun e s hn _ => match hn with | none => Q e s h | some h' => Q e s h') (fun l _ ih => vcL l ih) (fun b _ _ ih1 ih2 => cond b ih1 ih2) (fun i => Stk i) o
/-- What must be the same: left (false), right (true). -/
def sm (q : Bool) : Oc → List Sm
  | .ok _ _ _ _ => []
  | .ob l x => smL q l ++ x.sm q
  | .br _ x y => x.sm q ++ y.sm q
  | .bad _ => []
theorem sm_len : ∀ o : Oc, (o.sm false).length = (o.sm true).length
  | .ok .. => by simp [sm]
  | .ob l x => by simp only [sm, List.length_append, smL_len l, sm_len x]
  | .br _ x y => by simp only [sm, List.length_append, sm_len x, sm_len y]
  | .bad _ => by simp [sm]
theorem vc_ok {h : Hp} {Q : Post} : ∀ o : Oc, o.sm false = o.sm true → o.vc h Q → o.post h Q
  | .ok e s hn kn, _, p => by cases hn <;> exact p
  | .ob l x, hs, p => by
    simp only [sm] at hs
    obtain ⟨hs1, hs2⟩ := List.append_inj hs (smL_len l)
    obtain ⟨h1, h2⟩ := vcL_ok l _ hs1 p
    exact ⟨h1, vc_ok x hs2 h2⟩
  | .br b x y, hs, p => by
    simp only [sm] at hs
    obtain ⟨hs1, hs2⟩ := List.append_inj hs (sm_len x)
    have p' : cond b (x.vc h Q) (y.vc h Q) := p
    exact ⟨fun e => by subst e; exact vc_ok x hs1 p', fun e => by subst e; exact vc_ok y hs2 p'⟩
  | .bad i, _, p => nomatch (p : Stk i)
mutual
/-- Nothing that must be the same. -/
def nosO : Ob → Bool
  | .b _ => true
  | .p _ => true
  | .br _ x y => nosL x && nosL y
  | .same _ _ _ _ => false
def nosL : List Ob → Bool
  | [] => true
  | o :: r => nosO o && nosL r
end
mutual
theorem nosO_ok {q : Bool} : ∀ o : Ob, nosO o = true → o.sm q = []
  | .b _, _ => by simp [Ob.sm]
  | .p _, _ => by simp [Ob.sm]
  | .br _ x y, h => by
    simp only [nosO, Bool.and_eq_true] at h
    simp only [Ob.sm, nosL_ok x h.1, nosL_ok y h.2, List.append_nil]
  | .same .., h => by simp [nosO] at h
theorem nosL_ok {q : Bool} : ∀ l : List Ob, nosL l = true → smL q l = []
  | [], _ => by simp [smL]
  | o :: r, h => by
    simp only [nosL, Bool.and_eq_true] at h
    simp only [smL, nosO_ok o h.1, nosL_ok r h.2, List.append_nil]
end
noncomputable def noS (o : Oc) : Bool := Oc.rec (fun _ _ _ _ => true) (fun l _ ih => match nosL l with | true => ih | false => false) (fun _ _ _ ih1 ih2 => match ih1 with | true => ih2 | false => false) (fun _ => true) o
theorem noS_ok {q : Bool} : ∀ o : Oc, o.noS = true → o.sm q = []
  | .ok .., _ => by simp [sm]
  | .ob l x, h => by
    have h' : (match nosL l with | true => x.noS | false => false) = true := h
    split at h'
    · rename_i hl
      simp only [sm, nosL_ok l hl, noS_ok x h', List.append_nil]
    · cases h'
  | .br b x y, h => by
    have h' : (match x.noS with | true => y.noS | false => false) = true := h
    split at h'
    · rename_i hx
      simp only [sm, noS_ok x hx, noS_ok y h', List.append_nil]
    · cases h'
  | .bad _, _ => by simp [sm]
/-- What must be the same is. -/
def Sames (o : Oc) : Prop := o.noS = true ∨ o.sm false = o.sm true
theorem Sames.sm {o : Oc} (h : o.Sames) : o.sm false = o.sm true := by
  rcases h with h | h
  · rw [noS_ok o h, noS_ok o h]
  · exact h
theorem post_mono {h : Hp} {Q Q' : Post} (hq : ∀ e s h, Q e s h → Q' e s h) : ∀ o : Oc, o.post h Q → o.post h Q'
  | .ok e s hn kn, p => hq _ _ _ p
  | .ob l x, p => ⟨p.1, post_mono hq x p.2⟩
  | .br b x y, p => ⟨fun e => post_mono hq x (p.1 e), fun e => post_mono hq y (p.2 e)⟩
  | .bad i, p => p
/-- Told of the blocks ahead. -/
noncomputable def reb (hn : Option Hp) (o : Oc) : Oc :=
  match hn with
  | none => o
  | some h => Oc.rec (fun e s h' kn => .ok e s (orH (some h) h') kn) (fun l _ ih => .ob l ih) (fun b _ _ ih1 ih2 => .br b ih1 ih2) (fun i => .bad i) o
theorem reb_post {h : Hp} {hn : Option Hp} {Q : Post} : ∀ o : Oc, (o.reb hn).post h Q → o.post (hn.getD h) Q := by
  cases hn with
  | none => exact fun o p => p
  | some h1 =>
    have key : ∀ o : Oc, (o.reb (some h1)).post h Q → o.post h1 Q := by
      intro o
      induction o with
      | ok e s hn kn =>
        intro p
        have p' : Q e s ((orH (some h1) hn).getD h) := p
        rw [orH_getD] at p'
        exact p'
      | ob l x ih => exact fun p => ⟨p.1, ih p.2⟩
      | br b x y ih1 ih2 => exact fun p => ⟨fun e => ih1 (p.1 e), fun e => ih2 (p.2 e)⟩
      | bad i => exact fun p => p
    exact key
/-- One piece behind another. -/
noncomputable def bind (h : Hp) (f : List Nat → Slots → Hp → Oc) (o : Oc) : Oc :=
  Oc.rec (fun e s hn kn => match e with
    | .normal => match hn with
      | none => frK kn fun kn => frS s fun s => f kn s h
      | some h' => frK kn fun kn => frS s fun s => frH h' fun h' => (f kn s h').reb (some h')
    | e => .ok e s hn kn) (fun l _ ih => .ob l ih) (fun b _ _ ih1 ih2 => .br b ih1 ih2) (fun i => .bad i) o
theorem bind_post {h : Hp} {f : List Nat → Slots → Hp → Oc} {Q : Post} {N : Slots → Hp → Prop} (hf : ∀ kn s h, (f kn s h).post h Q → N s h) : ∀ o : Oc, (o.bind h f).post h Q → o.post h (thenP N Q)
  | .ok e s hn kn, p => by
    cases e with
    | normal =>
      cases hn with
      | none =>
        have p' : (frK kn fun kn => frS s fun s => f kn s h).post h Q := p
        rw [frK_eq, frS_eq] at p'
        exact hf kn s h p'
      | some h' =>
        have p' : (frK kn fun kn => frS s fun s => frH h' fun h' => (f kn s h').reb (some h')).post h Q := p
        rw [frK_eq, frS_eq, frH_eq] at p'
        exact hf kn s h' (reb_post (hn := some h') _ p')
    | _ => exact p
  | .ob l x, p => ⟨p.1, bind_post hf x p.2⟩
  | .br b x y, p => ⟨fun e => bind_post hf x (p.1 e), fun e => bind_post hf y (p.2 e)⟩
  | .bad i, p => p
/-- A block's exits. -/
noncomputable def blk (id : Nat) (o : Oc) : Oc :=
  Oc.rec (fun e s hn kn => match e with
    | .exit id' => match Nat.beq id' id with
      | true => .ok .normal s hn kn
      | false => .ok (.exit id') s hn kn
    | e => .ok e s hn kn) (fun l _ ih => .ob l ih) (fun b _ _ ih1 ih2 => .br b ih1 ih2) (fun i => .bad i) o
theorem blk_post {h : Hp} {id : Nat} {Q : Post} : ∀ o : Oc, (o.blk id).post h Q → o.post h (inBlockP id Q)
  | .ok e s hn kn, p => by
    cases e with
    | exit id' =>
      have p' : (match Nat.beq id' id with | true => Oc.ok .normal s hn kn | false => Oc.ok (.exit id') s hn kn).post h Q := p
      show inBlockP id Q (.exit id') s (hn.getD h)
      simp only [inBlockP]
      cases hb : Nat.beq id' id
      · rw [hb] at p'; rw [if_neg (ne_of_beq hb)]; exact p'
      · rw [hb] at p'; rw [if_pos (Nat.eq_of_beq_eq_true hb)]; exact p'
    | _ => exact p
  | .ob l x, p => ⟨p.1, blk_post x p.2⟩
  | .br b x y, p => ⟨fun e => blk_post x (p.1 e), fun e => blk_post y (p.2 e)⟩
  | .bad i, p => p
/-- One way alone, that goes on. -/
noncomputable def one (o : Oc) : Option (List Ob × Slots × Option Hp) :=
  Oc.rec (fun e s hn _ => match e with | .normal => some ([], s, hn) | _ => none) (fun l _ ih => match ih with | some (l', s, hn) => some (appO l l', s, hn) | none => none) (fun _ _ _ _ _ => none) (fun _ => none) o
theorem one_post {h : Hp} {Q : Post} : ∀ (o : Oc) {l : List Ob} {s : Slots} {hn : Option Hp}, o.one = some (l, s, hn) → obsL l → Q .normal s (hn.getD h) → o.post h Q
  | .ok e s' hn' kn, l, s, hn, h1, h2, h3 => by
    cases e with
    | normal =>
      have h1' : some (([] : List Ob), s', hn') = some (l, s, hn) := h1
      injection h1' with h1'; simp only [Prod.mk.injEq] at h1'; obtain ⟨_, rfl, rfl⟩ := h1'
      exact h3
    | _ => cases h1
  | .ob l0 x, l, s, hn, h1, h2, h3 => by
    have h1' : (match x.one with | some (l', s, hn) => some (appO l0 l', s, hn) | none => none) = some (l, s, hn) := h1
    split at h1'
    · rename_i l' s' hn' hx
      injection h1' with h1'; simp only [Prod.mk.injEq] at h1'; obtain ⟨rfl, rfl, rfl⟩ := h1'
      rw [appO_eq] at h2
      obtain ⟨h4, h5⟩ := obsL_app h2
      exact ⟨h4, one_post x hx h5 h3⟩
    · cases h1'
  | .br b x y, l, s, hn, h1, h2, h3 => by cases h1
  | .bad i, l, s, hn, h1, h2, h3 => by cases h1
noncomputable def keys (s : Slots) : List Nat := List.rec [] (fun p _ ih => p.1 :: ih) s
/-- What isn't assigned, and is data, stays: in all ways. -/
def kp (ms : List Nat) (s : Slots) : Oc → Prop
  | .ok _ s1 _ _ => Kp ms s s1
  | .ob _ x => x.kp ms s
  | .br _ x y => x.kp ms s ∧ y.kp ms s
  | .bad _ => True
theorem kp_mono {ms ms' : List Nat} {s : Slots} (k : ∀ t, t ∈ ms → t ∈ ms') : ∀ o : Oc, o.kp ms s → o.kp ms' s
  | .ok .., p => Kp.mono p k
  | .ob _ x, p => kp_mono k x p
  | .br _ x y, p => ⟨kp_mono k x p.1, kp_mono k y p.2⟩
  | .bad _, _ => trivial
theorem kp_from {ms : List Nat} {s s0 : Slots} (k : Kp ms s s0) : ∀ o : Oc, o.kp ms s0 → o.kp ms s
  | .ok .., p => k.trans p
  | .ob _ x, p => kp_from k x p
  | .br _ x y, p => ⟨kp_from k x p.1, kp_from k y p.2⟩
  | .bad _, _ => trivial
theorem kp_reb {ms : List Nat} {s : Slots} {hn : Option Hp} : ∀ o : Oc, o.kp ms s → (o.reb hn).kp ms s := by
  cases hn with
  | none => exact fun o p => p
  | some h1 =>
    intro o
    induction o with
    | ok e s hn kn => exact fun p => p
    | ob l x ih => exact fun p => ih p
    | br b x y ih1 ih2 => exact fun p => ⟨ih1 p.1, ih2 p.2⟩
    | bad i => exact fun p => p
theorem kp_bind {ms : List Nat} {s : Slots} {h : Hp} {f : List Nat → Slots → Hp → Oc} (hf : ∀ kn s h, (f kn s h).kp ms s) : ∀ o : Oc, o.kp ms s → (o.bind h f).kp ms s
  | .ok e s1 hn kn, p => by
    cases e with
    | normal =>
      cases hn with
      | none =>
        show (frK kn fun kn => frS s1 fun s => f kn s h).kp ms s
        rw [frK_eq, frS_eq]
        exact kp_from p _ (hf kn s1 h)
      | some h' =>
        show (frK kn fun kn => frS s1 fun s => frH h' fun h' => (f kn s h').reb (some h')).kp ms s
        rw [frK_eq, frS_eq, frH_eq]
        exact kp_from p _ (kp_reb (hn := some h') _ (hf kn s1 h'))
    | _ => exact p
  | .ob l x, p => kp_bind hf x p
  | .br b x y, p => ⟨kp_bind hf x p.1, kp_bind hf y p.2⟩
  | .bad i, _ => trivial
theorem kp_blk {ms : List Nat} {s : Slots} {id : Nat} : ∀ o : Oc, o.kp ms s → (o.blk id).kp ms s
  | .ok e s1 hn kn, p => by
    cases e with
    | exit id' =>
      show (match Nat.beq id' id with | true => Oc.ok .normal s1 hn kn | false => Oc.ok (.exit id') s1 hn kn).kp ms s
      cases Nat.beq id' id <;> exact p
    | _ => exact p
  | .ob l x, p => kp_blk x p
  | .br b x y, p => ⟨kp_blk x p.1, kp_blk y p.2⟩
  | .bad i, _ => trivial
theorem one_kp {ms : List Nat} {s : Slots} : ∀ (o : Oc) {l : List Ob} {s1 : Slots} {hn : Option Hp}, o.one = some (l, s1, hn) → o.kp ms s → Kp ms s s1
  | .ok e s' hn' kn, l, s1, hn, h1, p => by
    cases e with
    | normal =>
      have h1' : some (([] : List Ob), s', hn') = some (l, s1, hn) := h1
      injection h1' with h1'; simp only [Prod.mk.injEq] at h1'; obtain ⟨_, rfl, rfl⟩ := h1'
      exact p
    | _ => cases h1
  | .ob l0 x, l, s1, hn, h1, p => by
    have h1' : (match x.one with | some (l', s, hn) => some (appO l0 l', s, hn) | none => none) = some (l, s1, hn) := h1
    split at h1'
    · rename_i l' s' hn' hx
      injection h1' with h1'; simp only [Prod.mk.injEq] at h1'; obtain ⟨rfl, rfl, rfl⟩ := h1'
      exact one_kp x hx p
    · cases h1'
  | .br b x y, l, s1, hn, h1, p => by cases h1
  | .bad i, l, s1, hn, h1, p => by cases h1
/-- Two ways in one. -/
noncomputable def mrg (b : Bool) (ms kn : List Nat) (s : Slots) (h : Hp) (o1 o2 : Oc) : Oc :=
  match o1.one with
  | some (l1, s1, h1) => match o2.one with
    | some (l2, s2, h2) => match h1, h2 with
      | none, none => .ob (brO b l1 l2) (.ok .normal (selK b ms s s1 s2 (keys s1)) none kn)
      | _, _ => .ob (brO b l1 l2) (.ok .normal (selK b ms s s1 s2 (keys s1)) (some (selH b (h1.getD h) (h2.getD h) h.b)) kn)
    | none => .br b o1 o2
  | none => .br b o1 o2
theorem kp_mrg {b : Bool} {ms kn : List Nat} {s : Slots} {h : Hp} {o1 o2 : Oc} (k1 : o1.kp ms s) (k2 : o2.kp ms s) : (mrg b ms kn s h o1 o2).kp ms s := by
  unfold mrg
  split
  · rename_i l1 s1 h1 e1
    split
    · split <;> exact selK_kp (one_kp o1 e1 k1) _
    · exact ⟨k1, k2⟩
  · exact ⟨k1, k2⟩
/-- Of the state less may be known. -/
def WQ (Q : Post) : Post := fun e s h => WK (Q e) s h
theorem mrg_post {b : Bool} {ms kn : List Nat} {s : Slots} {h : Hp} {o1 o2 : Oc} {Q : Post} (k1 : o1.kp ms s) (k2 : o2.kp ms s) (p : (mrg b ms kn s h o1 o2).post h (WQ Q)) : (b = true → o1.post h (WQ Q)) ∧ (b = false → o2.post h (WQ Q)) := by
  unfold mrg at p
  split at p
  · rename_i l1 s1 h1 e1
    split at p
    · rename_i l2 s2 h2 e2
      obtain ⟨g1, g2⟩ := selK_le (b := b) (one_kp o1 e1 k1) (one_kp o2 e2 k2) (keys s1)
      have key : ∀ (hm : Option Hp), (b = true → HLe (h1.getD h) (hm.getD h)) → (b = false → HLe (h2.getD h) (hm.getD h)) → (Oc.ob (brO b l1 l2) (.ok .normal (selK b ms s s1 s2 (keys s1)) hm kn)).post h (WQ Q) → (b = true → o1.post h (WQ Q)) ∧ (b = false → o2.post h (WQ Q)) := fun hm c1 c2 ⟨q1, s', h', q2, q3, q4⟩ => by
        obtain ⟨w1, w2⟩ := brO_ok q1
        exact ⟨fun hb => one_post o1 e1 (w1 hb) ⟨s', h', (SLe.of (g1 hb)).trans q2, (c1 hb).trans q3, q4⟩, fun hb => one_post o2 e2 (w2 hb) ⟨s', h', (SLe.of (g2 hb)).trans q2, (c2 hb).trans q3, q4⟩⟩
      split at p
      · exact key none (fun _ => .refl _) (fun _ => .refl _) p
      · exact key (some _) (fun hb => selH_t hb _ _ _) (fun hb => selH_f hb _ _ _) p
    · exact p
  · exact p
end Oc
open Oc

section
variable {E : Env} {k B : Nat} {s s' : Slots} {h h' : Hp} {Q Q' : Post} {X : Fx} {c : Cs} {F : Fi}
/-- What code assigns. -/
noncomputable def modC (code : Code) : List Nat :=
  Code.rec (motive := fun _ => List Nat) [] (fun _ ops _ => modL ops.toList) (fun _ _ a b => a ++ b) (fun t _ _ a b => match t with | .tmp t => t :: (a ++ b) | _ => a ++ b) (fun _ _ a => a) (fun _ a => a) (fun _ _ _ _ a b => a ++ b) (fun _ => []) (fun _ a => a) (fun _ => []) (fun _ => []) [] (fun _ => []) code
def noSel (l : List Oper) : Bool := Region.noSelect l.toArray
/-- The orders of a function's regions stand for all: reckoned once. -/
noncomputable def ordR (ord : List (Nat × Od)) (id : Nat) (l : List Oper) : Bool :=
  match lkr ord id with
  | some od => okOT l (gL l od.imp) od.t l.length (Array.replicate l.toArray.size false) && noSel l
  | none => true
noncomputable def ordC (ord : List (Nat × Od)) (code : Code) : Bool :=
  Code.rec (motive := fun _ => Bool) true (fun id ops draw => match draw with | true => ordR ord id ops.toList | false => true) (fun _ _ a b => a && b) (fun _ _ _ a b => a && b) (fun _ _ a => a) (fun _ a => a) (fun _ _ _ _ a b => a && b) (fun _ => true) (fun _ a => a) (fun _ => true) (fun _ => true) true (fun _ => true) code
/-- Names kept: they stand in the heap already, without a block, so that all orders leave the same list. -/
noncomputable def nones (rk : List (Nat × Nat)) : Nat → Heap → Heap := List.rec (motive := fun _ => Nat → Heap → Heap) (fun _ b => b) (fun _ _ ih n b => ih (n + 1) (b ++ [(n, none)])) rk
noncomputable def keep (rk : List (Nat × Nat)) (h : Hp) : Hp := ⟨List.rec h.n (fun _ _ ih => ih + 1) rk, nones rk h.n h.b⟩
theorem lk_none (n i : Nat) (y : Blk) : ∀ b : Heap, lk (b ++ [(n, none)]) i = some (some y) → lk b i = some (some y)
  | [], h => by
    have h' : lk [(n, (none : Option Blk))] i = some (some y) := h
    rw [lk_cons] at h'
    split at h'
    · cases h'
    · simp [lk] at h'
  | p :: r, h => by
    obtain ⟨j, x⟩ := p
    have h' : lk ((j, x) :: (r ++ [(n, none)])) i = some (some y) := h
    rw [lk_cons] at h' ⊢
    split at h'
    · rename_i e; rw [if_pos e]; exact h'
    · rename_i e; rw [if_neg e]; exact lk_none n i y r h'
theorem nones_lk (i : Nat) (y : Blk) : ∀ (rk : List (Nat × Nat)) (n : Nat) (b : Heap), lk (nones rk n b) i = some (some y) → lk b i = some (some y)
  | [], _, _, h => h
  | _ :: r, n, b, h => lk_none n i y b (nones_lk i y r (n + 1) (b ++ [(n, none)]) h)
theorem keep_le (rk : List (Nat × Nat)) (h : Hp) : HLe h (keep rk h) := by
  refine ⟨?_, fun i y hy => ⟨y, nones_lk i y rk h.n h.b hy, .refl _⟩⟩
  show h.n ≤ (List.rec h.n (fun _ _ ih => ih + 1) rk : Nat)
  induction rk with
  | nil => exact Nat.le_refl _
  | cons p r ih => exact Nat.le_succ_of_le ih
noncomputable def rids (rk : List (Nat × Nat)) (n i : Nat) : Option Nat := match lkr rk i with | some r => some (n + r) | none => none
/-- What a region assigns anew is no longer plain. -/
noncomputable def knR (fk ms kn : List Nat) : List Nat := List.rec [] (fun t _ ih => cond (memN t ms) (cond (memN t fk) (t :: ih) ih) (t :: ih)) kn
/-- A region. -/
noncomputable def regX (X : Fx) (c : Cs) (F : Fi) (B k id : Nat) (l : List Oper) (draw : Bool) (kn : List Nat) (s : Slots) (h : Hp) : Rn :=
  match lkr F.live id with
  | some live => match draw with
    | false => runO X c B k F.lit l live l (knR F.kn (modL l) kn) s h
    | true => match lkr F.ord id with
      | some od => match od.rk with
        | [] => runT X c B k F.lit l (gL l od.imp) (fun _ => none) live od.t (knR F.kn (modL l) kn) s h
        | rk => (runT X c B k F.lit l (gL l od.imp) (rids rk h.n) live od.t (knR F.kn (modL l) kn) s (keep rk h)).pre [] (some (keep rk h))
      | none => .bad 3002
  | none => .bad 3003
theorem regX_ok {id : Nat} {l : List Oper} {draw : Bool} {kn : List Nat} (hX : X.tab = E.tab) (he : EqT E X.eqs) (hc : CsOk E c) (hP : NoPanic Q) (ho : draw = true → ordR F.ord id l = true) (hp : (regX X c F B k id l draw kn s h).post h (WK (Q .normal))) : T E k B (.region id l.toArray draw) s h Q := by
  unfold regX at hp
  split at hp
  · rename_i live hlive
    split at hp
    · exact T.of_region (runO_TO hX he hc l l (fun _ ho => ho) _ s h hp)
    · split at hp
      · rename_i od hord
        have hok := ho rfl
        unfold ordR at hok
        rw [hord] at hok
        obtain ⟨h1, h3⟩ := and_split hok
        have fin : ∀ (h1 : Hp) (rd : Nat → Option Nat) (kn : List Nat), (runT X c B k F.lit l (gL l od.imp) rd live od.t kn s h1).post h1 (WK (Q .normal)) → T E k B (.region id l.toArray true) s h1 Q := fun h1' rd kn q => by
          have t := (runT_ok (B := B) (k := k) (lit := F.lit) (g := gL l od.imp) (live := live) hX he hc l rd hP h3 od.t l.length _ kn s h1' q).1 h1
          exact T.of_draw (gL l od.imp) (by rwa [show l.length = l.toArray.size by simp] at t)
        split at hp
        · exact fin h _ _ hp
        · obtain ⟨_, q⟩ := Rn.post_pre hp
          exact T.leS (fin _ _ _ q) (.refl _) (keep_le _ h)
      · exact hp.elim
  · exact hp.elim
noncomputable def ofRn (r : Rn) : Oc := match r with
  | .ok l s hn kn => .ob l (.ok .normal s hn kn)
  | .bad i => .bad i
theorem ofRn_post {r : Rn} (p : (ofRn r).post h Q) : r.post h (Q .normal) := by
  cases r with
  | ok l s hn kn => exact p
  | bad i => exact p
/-- Code, as far as it can be reckoned. -/
noncomputable def runC (X : Fx) (c : Cs) (F : Fi) (B k : Nat) (code : Code) : List Nat → Slots → Hp → Oc :=
  Code.rec (motive := fun _ => List Nat → Slots → Hp → Oc)
    (skip := fun kn s _ => .ok .normal s none kn)
    (region := fun id ops draw kn s h => ofRn (regX X c F B k id ops.toList draw kn s h))
    (seq := fun _ _ ix iy kn s h => (ix kn s h).bind h iy)
    (cond := fun t cx cy ix iy kn s h => match t with
      | .tmp t => match lkr s t with
        | some (.d (.bool b)) => match F.lit || memN t kn with
          | true => cond b (ix kn s h) (iy kn s h)
          | false => mrg b (t :: (modC cx ++ modC cy)) kn s h (ix (t :: kn) ((t, vb true) :: s) h) (iy (t :: kn) ((t, vb false) :: s) h)
        | _ => .bad t
      | .const (.bool b) => cond b (ix kn s h) (iy kn s h)
      | _ => .bad 3004)
    (block := fun id _ ix kn s h => (ix kn s h).blk id)
    (loop := fun _ ix => Nat.rec (motive := fun _ => List Nat → Slots → Hp → Oc) (fun _ _ _ => .bad 3005) (fun _ ih kn s h => (ix kn s h).bind h ih) F.unr)
    (rangeFunc := fun _ _ _ _ _ _ _ _ _ => .bad 3006)
    (exit := fun id kn s _ => .ok (.exit id) s none kn)
    (scope := fun _ _ _ _ _ => .bad 3007)
    (label := fun _ kn s _ => .ok .normal s none kn)
    (goto := fun l kn s _ => .ok (.goto l) s none kn)
    (ret := fun kn s _ => .ok .ret s none kn)
    (refuse := fun _ _ _ _ => .bad 3008)
    code
theorem regX_kp {id : Nat} {l : List Oper} {draw : Bool} {kn : List Nat} : (ofRn (regX X c F B k id l draw kn s h)).kp (modL l) s := by
  have fin : ∀ {r : Rn}, r.kp (modL l) s → (ofRn r).kp (modL l) s := fun {r} h => by cases r with
    | ok => exact h
    | bad => trivial
  apply fin
  unfold regX
  split
  · split
    · exact runO_kp l l (fun _ ho => ho) _ s h
    · split
      · split
        · exact runT_kp l _ _ _ s h
        · exact Rn.pre_kp (Kp.refl _ _) (runT_kp l _ _ _ _ _)
      · trivial
  · trivial
theorem runC_kp : ∀ (code : Code) (kn : List Nat) (s : Slots) (h : Hp), (runC X c F B k code kn s h).kp (modC code) s := by
  intro code
  induction code with
  | skip => exact fun kn s h => Kp.refl _ _
  | region id ops draw => exact fun kn s h => regX_kp
  | seq x y ix iy => exact fun kn s h => kp_bind (ms := modC x ++ modC y) (fun kn s h => kp_mono (fun t h => List.mem_append_right _ h) _ (iy kn s h)) _ (kp_mono (fun t h => List.mem_append_left _ h) _ (ix kn s h))
  | cond t x y ix iy =>
    intro kn s h
    have hl : ∀ t, t ∈ modC x → t ∈ modC x ++ modC y := fun t h => List.mem_append_left _ h
    have hr : ∀ t, t ∈ modC y → t ∈ modC x ++ modC y := fun t h => List.mem_append_right _ h
    have kc : ∀ (b : Bool) (o1 o2 : Oc) (ms : List Nat), o1.kp ms s → o2.kp ms s → (cond b o1 o2).kp ms s := fun b o1 o2 ms h1 h2 => by cases b <;> assumption
    cases t with
    | tmp t =>
      have gl : ∀ i, i ∈ modC x → i ∈ t :: (modC x ++ modC y) := fun i h => List.mem_cons_of_mem _ (hl i h)
      have gr : ∀ i, i ∈ modC y → i ∈ t :: (modC x ++ modC y) := fun i h => List.mem_cons_of_mem _ (hr i h)
      show Oc.kp (t :: (modC x ++ modC y)) s (match lkr s t with
        | some (.d (.bool b)) => match F.lit || memN t kn with
          | true => cond b (runC X c F B k x kn s h) (runC X c F B k y kn s h)
          | false => mrg b (t :: (modC x ++ modC y)) kn s h (runC X c F B k x (t :: kn) ((t, vb true) :: s) h) (runC X c F B k y (t :: kn) ((t, vb false) :: s) h)
        | _ => .bad t)
      split
      · split
        · exact kc _ _ _ _ (kp_mono gl _ (ix kn s h)) (kp_mono gr _ (iy kn s h))
        · exact kp_mrg (kp_from (Kp.put List.mem_cons_self _ s) _ (kp_mono gl _ (ix _ _ h))) (kp_from (Kp.put List.mem_cons_self _ s) _ (kp_mono gr _ (iy _ _ h)))
      · trivial
    | const d =>
      cases d with
      | bool b => exact kc b _ _ _ (kp_mono hl _ (ix kn s h)) (kp_mono hr _ (iy kn s h))
      | _ => trivial
    | _ => trivial
  | block id x ix => exact fun kn s h => kp_blk _ (ix kn s h)
  | loop x ix =>
    have key : ∀ (n : Nat) (kn : List Nat) (s : Slots) (h : Hp), Oc.kp (modC x) s (Nat.rec (motive := fun _ => List Nat → Slots → Hp → Oc) (fun _ _ _ => .bad 3005) (fun _ ih kn s h => (runC X c F B k x kn s h).bind h ih) n kn s h : Oc) := by
      intro n
      induction n with
      | zero => exact fun _ _ _ => trivial
      | succ n ih => exact fun kn s h => kp_bind ih _ (ix kn s h)
    exact fun kn s h => key _ kn s h
  | rangeFunc f ps x y ix iy => exact fun _ _ _ => trivial
  | exit id => exact fun kn s h => Kp.refl _ _
  | scope x ix => exact fun _ _ _ => trivial
  | label l => exact fun kn s h => Kp.refl _ _
  | goto l => exact fun kn s h => Kp.refl _ _
  | ret => exact fun kn s h => Kp.refl _ _
  | refuse w => exact fun _ _ _ => trivial
theorem runC_ok (hX : X.tab = E.tab) (he : EqT E X.eqs) (hc : CsOk E c) : ∀ (code : Code), ordC F.ord code = true → ∀ {Q : Post} (kn : List Nat) (s : Slots) (h : Hp), NoPanic Q → (runC X c F B k code kn s h).post h (WQ Q) → T E k B code s h Q := by
  have toQ : ∀ {code : Code} {Q : Post} {e : Exit} {s : Slots} {h : Hp}, (∀ s h, Q e s h → T E k B code s h Q) → WQ Q e s h → T E k B code s h Q := fun hq ⟨s', h', q1, q2, q3⟩ => T.leS (hq _ _ q3) q1 q2
  intro code
  induction code with
  | skip => intro _ Q kn s h hP p; exact toQ (fun s h q => T.skip q) p
  | region id ops draw =>
    intro ho Q kn s h hP p
    have := regX_ok (B := B) (k := k) (F := F) (id := id) (l := ops.toList) (draw := draw) hX he hc hP (fun e => by subst e; exact ho) (ofRn_post (Q := WQ Q) p)
    simpa using this
  | seq x y ix iy =>
    intro ho Q kn s h hP p
    have ho' : (ordC F.ord x && ordC F.ord y) = true := ho
    obtain ⟨ho1, ho2⟩ := and_split ho'
    have ix := @ix ho1
    have iy := @iy ho2
    refine T.seq (ix kn s h hP.thenP ?_)
    have := bind_post (Q := WQ Q) (N := fun s' h' => T E k B y s' h' Q) (fun kn s h q => iy kn s h hP q) (runC X c F B k x kn s h) p
    refine post_mono (fun e s h q => ?_) _ this
    cases e with
    | normal => exact ⟨s, h, .refl _, .refl _, q⟩
    | _ => exact q
  | cond t x y ix iy =>
    intro ho Q kn s h hP p
    have ho' : (ordC F.ord x && ordC F.ord y) = true := ho
    obtain ⟨ho1, ho2⟩ := and_split ho'
    have ix := @ix ho1
    have iy := @iy ho2
    have p' : (match t with
      | .tmp t => match lkr s t with
        | some (.d (.bool b)) => match F.lit || memN t kn with
          | true => cond b (runC X c F B k x kn s h) (runC X c F B k y kn s h)
          | false => mrg b (t :: (modC x ++ modC y)) kn s h (runC X c F B k x (t :: kn) ((t, vb true) :: s) h) (runC X c F B k y (t :: kn) ((t, vb false) :: s) h)
        | _ => .bad t
      | .const (.bool b) => cond b (runC X c F B k x kn s h) (runC X c F B k y kn s h)
      | _ => .bad 3004).post h (WQ Q) := p
    split at p'
    · rename_i t
      have kpx : ∀ kn v h, (runC X c F B k x kn ((t, v) :: s) h).kp (t :: (modC x ++ modC y)) s := fun kn v h => kp_from (Kp.put List.mem_cons_self v s) _ (kp_mono (fun t h => List.mem_cons_of_mem _ (List.mem_append_left _ h)) _ (runC_kp x kn _ h))
      have kpy : ∀ kn v h, (runC X c F B k y kn ((t, v) :: s) h).kp (t :: (modC x ++ modC y)) s := fun kn v h => kp_from (Kp.put List.mem_cons_self v s) _ (kp_mono (fun t h => List.mem_cons_of_mem _ (List.mem_append_right _ h)) _ (runC_kp y kn _ h))
      rw [lkr_eq] at p'
      split at p'
      · rename_i b hb
        split at p'
        · refine T.cond hb (fun e => ?_) (fun e => ?_)
          · subst e; exact ix kn s h hP p'
          · subst e; exact iy kn s h hP p'
        · obtain ⟨q1, q2⟩ := mrg_post (kpx _ _ _) (kpy _ _ _) p'
          exact T.cond hb (fun e => T.leS (ix _ _ h hP (q1 e)) (SLe.known hb e) (.refl _)) (fun e => T.leS (iy _ _ h hP (q2 e)) (SLe.known hb e) (.refl _))
      · exact p'.elim
    · rename_i b
      refine T.cond_const (fun e => ?_) (fun e => ?_)
      · subst e; exact ix kn s h hP p'
      · subst e; exact iy kn s h hP p'
    · exact p'.elim
  | block id x ix =>
    intro ho Q kn s h hP p
    have ix := @ix ho
    refine T.block (ix kn s h hP.inB ?_)
    have := blk_post (Q := WQ Q) (runC X c F B k x kn s h) p
    refine post_mono (fun e s h q => ?_) _ this
    cases e with
    | exit id' =>
      simp only [inBlockP, WQ] at q ⊢
      split at q
      · obtain ⟨s', h', q1, q2, q3⟩ := q
        exact ⟨s', h', q1, q2, by simp only [inBlockP]; rw [if_pos ‹_›]; exact q3⟩
      · obtain ⟨s', h', q1, q2, q3⟩ := q
        exact ⟨s', h', q1, q2, by simp only [inBlockP]; rw [if_neg ‹_›]; exact q3⟩
    | _ => exact q
  | loop x ix =>
    intro ho Q kn s h hP p
    have ix := @ix ho
    refine T.rounds F.unr ?_
    have key : ∀ (n : Nat) (kn : List Nat) (s : Slots) (h : Hp), (Nat.rec (motive := fun _ => List Nat → Slots → Hp → Oc) (fun _ _ _ => .bad 3005) (fun _ ih kn s h => (runC X c F B k x kn s h).bind h ih) n kn s h : Oc).post h (WQ Q) → TR E k B x n s h Q := by
      intro n
      induction n with
      | zero => exact fun kn s h p => p.elim
      | succ n ih =>
        intro kn s h p
        refine TR.succ (ix kn s h hP.thenP ?_)
        have := bind_post (Q := WQ Q) (N := fun s' h' => TR E k B x n s' h' Q) ih (runC X c F B k x kn s h) p
        refine post_mono (fun e s h q => ?_) _ this
        cases e with
        | normal => exact ⟨s, h, .refl _, .refl _, q⟩
        | _ => exact q
    exact key _ kn s h p
  | rangeFunc f ps x y ix iy => intro _ Q kn s h hP p; exact p.elim
  | exit id => intro _ Q kn s h hP p; exact toQ (fun s h q => T.exit q) p
  | scope x ix => intro _ Q kn s h hP p; exact p.elim
  | label l => intro _ Q kn s h hP p; exact toQ (fun s h q => T.label q) p
  | goto l => intro _ Q kn s h hP p; exact toQ (fun s h q => T.goto q) p
  | ret => intro _ Q kn s h hP p; exact toQ (fun s h q => T.ret q) p
  | refuse w => intro _ Q kn s h hP p; exact p.elim
end
end Go.Proofs.Ythkoinngmcpjgaa

/-
  The reckoner: functions. Conditions: none.
-/
namespace Go.Proofs.Ythkoinngmcpjgaa
open Go.RowKit Oc

mutual
/-- What is known of a value's numbers. -/
def rngD : D → Prop
  | .int k i => loK k ≤ i ∧ i ≤ hiK k
  | .lst n cs => n ≤ 9223372036854775807 ∧ rngDs cs
  | .rows n _ f => n ≤ 9223372036854775807 ∧ ∀ i, i < n → rngDs (f i)
  | .lptr cs => rngDs cs
  | .str s => s.size ≤ 9223372036854775807
  | .bool _ => True
  | .nsl => True
  | .nilp => True
  | .nmap => True
  | .fn _ => True
  | .nfn => True
  | .nifc => True
def rngDs : List D → Prop
  | [] => True
  | d :: r => rngD d ∧ rngDs r
end
theorem rngDs_iff : ∀ l : List D, rngDs l ↔ ∀ d ∈ l, rngD d
  | [] => by unfold rngDs; simp
  | d :: r => by unfold rngDs; rw [rngDs_iff r]; simp
theorem DR.rng {U : Nat → Prop} {w : World} {d : D} {r : Value} (h : DR U w d r) : rngD d := by
  induction h with
  | int k i h => unfold rngD; exact (inR_iff k i).1 h
  | str s h => unfold rngD; exact h
  | lst f hk hc ha hv ih =>
    unfold rngD
    rw [rngDs_iff]
    refine ⟨Nat.le_trans hk hc, fun d hd => ?_⟩
    obtain ⟨j, hj⟩ := List.getElem?_of_mem hd
    exact ih j d hj
  | @rows n e f r hl h ih =>
    unfold rngD at ih ⊢
    rw [rngDs_iff] at ih
    refine ⟨ih.1, fun i hi => (rngDs_iff _).2 fun d hd => ih.2 d ?_⟩
    unfold flatN
    exact List.mem_flatMap.2 ⟨i, List.mem_range.2 hi, hd⟩
  | lptr f hu ha hv ih =>
    unfold rngD
    rw [rngDs_iff]
    intro d hd
    obtain ⟨j, hj⟩ := List.getElem?_of_mem hd
    exact ih j d hj
  | _ => unfold rngD; trivial
mutual
def rngV : V → Prop
  | .d x => rngD x
  | .agg cs => rngL cs
  | .tup cs => rngL cs
  | _ => True
def rngL : List V → Prop
  | [] => True
  | v :: r => rngV v ∧ rngL r
end
theorem rngL_iff : ∀ l : List V, rngL l ↔ ∀ v ∈ l, rngV v
  | [] => by unfold rngL; simp
  | v :: r => by unfold rngL; rw [rngL_iff r]; simp
theorem VR.rng {U : Nat → Prop} {m : Nat → Option Nat} {n : Nat} {w : World} {v : V} {r : Value} (h : VR U m n w v r) : rngV v := by
  induction h with
  | d h => unfold rngV; exact h.rng
  | @agg cs vs hl h ih =>
    unfold rngV
    rw [rngL_iff]
    intro c hc
    obtain ⟨j, hj⟩ := List.getElem?_of_mem hc
    have hlt : j < vs.size := by rw [← hl]; exact (List.getElem?_eq_some_iff.1 hj).1
    exact ih j c vs[j] hj (by simp [hlt])
  | @tup cs vs hl h ih =>
    unfold rngV
    rw [rngL_iff]
    intro c hc
    obtain ⟨j, hj⟩ := List.getElem?_of_mem hc
    have hlt : j < vs.size := by rw [← hl]; exact (List.getElem?_eq_some_iff.1 hj).1
    exact ih j c vs[j] hj (by simp [hlt])
  | _ => unfold rngV; trivial
theorem VRs.rng {U : Nat → Prop} {m : Nat → Option Nat} {n : Nat} {w : World} {l : List V} {vs : Array Value} (h : VRs U m n w l vs) : rngL l := by
  rw [rngL_iff]
  intro c hc
  obtain ⟨j, hj⟩ := List.getElem?_of_mem hc
  have hlt : j < vs.size := by rw [← h.len]; exact (List.getElem?_eq_some_iff.1 hj).1
  exact (h.at_ j c vs[j] hj (by simp [hlt])).rng

section
variable {E : Env} {k B : Nat} {s s' : Slots} {h h' : Hp} {Q Q' : Post} {X : Fx} {c : Cs} {F : Fi}
theorem Fn.range {f : FuncId} {args : List V} {r : V} (hp : r.pure = true) (ha : pureL args = true) (c : rngL args → Fn E f args r) : Fn E f args r :=
  ⟨hp, ha, fun U m w vs hH hV => (c hV.rng).2.2 U m w vs hH hV⟩
theorem Call.range {f : FuncId} {args : List V} {R : V → Hp → Prop} (c : rngL args → Call E f args h R) : Call E f args h R := fun U m w vs hH hV => c hV.rng U m w vs hH hV
theorem BLe.tup {l l' : List V} (g : BLs h l l') : BLe h (.tup l) (.tup l') := fun U m w r hH hv => by
  cases hv with | tup hl hv =>
  refine .tup (by rw [← g.len]; exact hl) (fun j c v h1 h2 => ?_)
  have hj : j < l.length := by rw [g.len]; exact (List.getElem?_eq_some_iff.1 h1).1
  exact g.at_ j _ _ (List.getElem?_eq_getElem hj) h1 U m w v hH (hv j _ v (List.getElem?_eq_getElem hj) h2)
theorem BLs.of_BL {l l' : List V} (g : BL h l l') : BLs h l l' := by
  induction g with
  | nil => exact ⟨rfl, fun j x x' h => by simp at h⟩
  | cons g k ih => exact ⟨by simp [ih.len], fun j x x' h1 h2 => by
      cases j with
      | zero => simp at h1 h2; subst h1; subst h2; exact g
      | succ j => exact ih.at_ j x x' (by simpa using h1) (by simpa using h2)⟩
/-- A result: what was at hand is nobody's now. -/
noncomputable def lendT (b : Heap) (v : V) : Bool × V :=
  match v with
  | .tup vs => match lendL b vs with | (c, l) => (c, .tup l)
  | v => lend2 b v
theorem lendT_ok {c : Bool} {v v' : V} (h1 : lendT h.b v = (c, v')) (hc : c = true) : BLe h v v' := by
  unfold lendT at h1
  split at h1
  · rename_i vs
    generalize g1 : lendL h.b vs = p1 at h1
    obtain ⟨c1, l1⟩ := p1
    simp only [Prod.mk.injEq] at h1; obtain ⟨e, rfl⟩ := h1
    subst e
    exact .tup (.of_BL (lendL_ok g1 hc))
  · exact lend2_ok h1 hc
/-- A pure function's end. -/
def QS (E : Env) (rs : List ResultVar) (r : V) : Post := fun e s h => (e = .normal ∨ e = .ret) ∧ ∃ v, resC E.tab s h.b rs = some v ∧ BLe h v r
theorem QS.noPanic {rs : List ResultVar} {r : V} : NoPanic (QS E rs r) := fun c s h q => by
  rcases q.1 with h | h <;> cases h
theorem Fn.of_T {f : FuncId} {fn : Func} {code : Code} {nt : Nat} {rs : List ResultVar} {args : List V} {rv : V} (hf : E.P.funcs[f]? = some fn) (hb : fn.body = some code) (hnt : fn.ntmps = nt) (hle : Nat.ble args.length nt = true) (hres : fn.results = rs.toArray) (hp : rv.pure = true) (ha : pureL args = true)
    (t : T E nt 0 code (argS 0 args) ⟨0, []⟩ (QS E rs rv)) : Fn E f args rv := ⟨hp, ha, fun U m w vs hH hV => by
  have hle' := Nat.le_of_ble_eq_true hle
  have hlen := hV.len
  have r0 : SR nt 0 U m (argS 0 args) ⟨0, []⟩ { tmps := vs ++ Array.replicate (fn.ntmps - vs.size) undef, defers := [] } w := by
    refine ⟨fun t v hv => ?_, ?_, rfl, hH, Nat.le_refl _⟩
    · obtain ⟨_, h1⟩ := argS_get args 0 t v hv
      have ht : t < vs.size := by rw [← hlen]; exact (List.getElem?_eq_some_iff.1 h1).1
      exact ⟨vs[t], by simp [Array.getElem?_append, ht], hV.at_ t v _ h1 (by simp [ht])⟩
    · simp only [Array.size_append, Array.size_replicate]; omega
  refine calls_of_wp hf hb (wp_mono (t U m _ w r0) fun e a' w' ⟨U', m', s', h', q, r1, st⟩ => ?_)
  obtain ⟨he, v, hrv, hq⟩ := q
  obtain ⟨x, g1, g2⟩ := resC_run r1 hres hrv
  have g3 := hq U' m' w' x r1.heap g1
  have hno : ∀ x, ¬ Own m' [] x := by rintro x ⟨id, bk, h1, _⟩; simp [lk] at h1
  have hH' : HR (lent U' m' h'.b) m' h'.n [] w' := ⟨fun id blk h => by simp [lk] at h, fun id blk x h => by simp [lk] at h, fun id id' blk blk' x h => by simp [lk] at h, fun x hx => by
    rcases hx with hx | ⟨id, bk, h1, h2⟩
    · exact r1.heap.ulow x hx
    · exact (r1.heap.ok id bk x h1 h2).2⟩
  have st' : Stp 0 U m 0 [] w (lent U' m' h'.b) m' h'.n [] w' :=
    { hn := Nat.zero_le _, hm := fun i hi => by omega, hU := fun x hx => .inl (st.hU x hx), size := st.size, os := st.os, tape := st.tape, output := st.output, keep := st.keep, own := fun x hx h => absurd h (hno x), lim := fun x hx h => by
        rcases h with h | h
        · exact st.lim x hx h
        · exact .inr (st.own x hx h)
      hz := st.hz }
  have : a'.defers = [] ∧ ∃ v, (results fn a'.tmps).run E.P w' = .ok v w' ∧ ∃ (r : V) (R0 : Value) (U' : Nat → Prop) (m' : Nat → Option Nat) (h' : Hp), (Ending.returned v : Ending) = .returned R0 ∧ (r = rv) ∧ VR U' m' h'.n w' r R0 ∧ HR U' m' h'.n h'.b w' ∧ Stp 0 U m 0 [] w U' m' h'.n h'.b w' :=
    ⟨r1.defers, x, g2, rv, _, lent U' m' h'.b, m', ⟨h'.n, []⟩, rfl, rfl, g3, hH', st'⟩
  rcases he with rfl | rfl <;> exact this⟩
/-- The same, as it is shown. -/
noncomputable def QF (tab : List (Nat × Ty)) (rs : List ResultVar) (r : V) : Post := fun e s h =>
  match e with
  | .normal => (match resC tab s h.b rs with | some v => (match lendT h.b v with | (c, v') => cond c (v' = r) False) | none => Stk 4001)
  | .ret => (match resC tab s h.b rs with | some v => (match lendT h.b v with | (c, v') => cond c (v' = r) False) | none => Stk 4001)
  | _ => Stk 4002
theorem QF.ok {rs : List ResultVar} {r : V} {e : Exit} {s : Slots} {h : Hp} (q : QF E.tab rs r e s h) : QS E rs r e s h := by
  have key : (match resC E.tab s h.b rs with | some v => (match lendT h.b v with | (c, v') => cond c (v' = r) False) | none => Stk 4001) → ∃ v, resC E.tab s h.b rs = some v ∧ BLe h v r := fun q => by
    split at q
    · rename_i v hv
      generalize g1 : lendT h.b v = p1 at q
      obtain ⟨c, v'⟩ := p1
      cases c
      · exact False.elim q
      · have q : v' = r := q
        subst q
        exact ⟨v, hv, lendT_ok g1 rfl⟩
    · cases q
  cases e with
  | normal => exact ⟨.inl rfl, key q⟩
  | ret => exact ⟨.inr rfl, key q⟩
  | _ => cases q
/-- A function of the program, as the reckoner takes it. -/
structure FnI where
  nt : Nat
  res : List ResultVar
  code : Code
  F : Fi
  imp : Bool
structure FnOk (E : Env) (f : FuncId) (I : FnI) : Prop where
  fn : ∃ fn : Func, E.P.funcs[f]? = some fn ∧ fn.body = some I.code ∧ fn.ntmps = I.nt ∧ fn.results = I.res.toArray
  en : Enters E f
  ord : ordC I.F.ord I.code = true
noncomputable def fxOf (tab : List (Nat × Ty)) (eqs : List (Nat × List Kd)) (F : Fi) : Fx := ⟨tab, eqs, F.wr, F.hd, F.lit⟩
/-- A function's body, reckoned. -/
noncomputable def bodyX (tab : List (Nat × Ty)) (eqs : List (Nat × List Kd)) (c : Cs) (I : FnI) (args : List V) : Oc := runC (fxOf tab eqs I.F) c I.F 0 I.nt I.code I.F.kn (argS 0 args) ⟨0, []⟩
/-- What is left to be shown: shut, lest Lean's own tactics reckon it. -/
structure VC (P : Prop) : Prop where
  p : P
theorem Fn.of_vc {eqs : List (Nat × List Kd)} {f : FuncId} {I : FnI} {args : List V} {r : V} (hI : FnOk E f I) (he : EqT E eqs) (hc : CsOk E c) (hle : Nat.ble args.length I.nt = true) (hp : r.pure = true) (ha : pureL args = true)
    (hs : (bodyX E.tab eqs c I args).Sames) (h : rngL args → VC ((bodyX E.tab eqs c I args).vc ⟨0, []⟩ (QF E.tab I.res r))) : Fn E f args r := Fn.range hp ha fun hr => by
  obtain ⟨fn, h1, h2, h3, h4⟩ := hI.fn
  refine Fn.of_T h1 h2 h3 hle h4 hp ha (runC_ok (X := fxOf E.tab eqs I.F) (c := c) (F := I.F) rfl he hc I.code hI.ord I.F.kn _ _ QS.noPanic ?_)
  refine post_mono (fun e s h q => ?_) _ (vc_ok _ hs.sm (h hr).p)
  exact ⟨s, h, .refl _, .refl _, q.ok⟩
/-- What a body comes to, all ways in one. -/
noncomputable def finI (tab : List (Nat × Ty)) (rs : List ResultVar) (h : Hp) (o : Oc) : Option (List Ob × V) :=
  Oc.rec (fun e s hn _ => match e with
    | .exit _ => none
    | .goto _ => none
    | .panic _ => none
    | .outgrown => none
    | _ => match hn with
      | none => (match resC tab s h.b rs with | some v => (match lendT h.b v with | (c, v') => some ([.b c], v')) | none => none)
      | some h' => (match resC tab s h'.b rs with | some v => (match lendT h'.b v with | (c, v') => some ([.b c], v')) | none => none))
    (fun l _ ih => match ih with | some (l', v) => some (appO l l', v) | none => none)
    (fun b _ _ ih1 ih2 => match ih1 with | some (l1, v1) => (match ih2 with | some (l2, v2) => some (brO b l1 l2, selV b v1 v2) | none => none) | none => none)
    (fun _ => none) o
end
end Go.Proofs.Ythkoinngmcpjgaa

/-
  The reckoner: functions that are called are reckoned in their turn; tables of what is known of some. Conditions: none.
-/
namespace Go.Proofs.Ythkoinngmcpjgaa
open Go.RowKit Oc

section
variable {E : Env} {k B : Nat} {s s' : Slots} {h h' : Hp} {Q Q' : Post} {X : Fx} {c : Cs} {F : Fi}
theorem QS.weak {rs : List ResultVar} {r r' : V} (l : VLe r r') {e : Exit} {s : Slots} {h : Hp} (q : QS E rs r e s h) : QS E rs r' e s h := by
  obtain ⟨h1, v, h2, h3⟩ := q
  exact ⟨h1, v, h2, fun U m w z hH hv => l _ _ _ _ _ (h3 U m w z hH hv)⟩
theorem finI_ok {rs : List ResultVar} {h : Hp} : ∀ (o : Oc) {l : List Ob} {r : V}, finI E.tab rs h o = some (l, r) → obsL l → o.post h (QS E rs r)
  | .ok e s hn kn, l, r, h1, hl => by
    have key : ∀ (h' : Hp), (match resC E.tab s h'.b rs with | some v => (match lendT h'.b v with | (c, v') => some ([Ob.b c], v')) | none => none) = some (l, r) → (e = .normal ∨ e = .ret) → QS E rs r e s h' := fun h' q he => by
      split at q
      · rename_i v hv
        generalize g1 : lendT h'.b v = p1 at q
        obtain ⟨c, v'⟩ := p1
        injection q with q; simp only [Prod.mk.injEq] at q; obtain ⟨rfl, rfl⟩ := q
        exact ⟨he, v, hv, lendT_ok g1 (obsL_b hl).1⟩
      · cases q
    cases e with
    | exit _ => cases h1
    | goto _ => cases h1
    | panic _ => cases h1
    | normal => cases hn <;> exact key _ h1 (.inl rfl)
    | ret => cases hn <;> exact key _ h1 (.inr rfl)
    | outgrown => cases h1
  | .ob l0 x, l, r, h1, hl => by
    have h1' : (match finI E.tab rs h x with | some (l', v) => some (appO l0 l', v) | none => none) = some (l, r) := h1
    split at h1'
    · rename_i l' v hx
      injection h1' with h1'; simp only [Prod.mk.injEq] at h1'; obtain ⟨rfl, rfl⟩ := h1'
      rw [appO_eq] at hl
      obtain ⟨h4, h5⟩ := obsL_app hl
      exact ⟨h4, finI_ok x hx h5⟩
    · cases h1'
  | .br b x y, l, r, h1, hl => by
    have h1' : (match finI E.tab rs h x with | some (l1, v1) => (match finI E.tab rs h y with | some (l2, v2) => some (brO b l1 l2, selV b v1 v2) | none => none) | none => none) = some (l, r) := h1
    split at h1'
    · rename_i l1 v1 hx
      split at h1'
      · rename_i l2 v2 hy
        injection h1' with h1'; simp only [Prod.mk.injEq] at h1'; obtain ⟨rfl, rfl⟩ := h1'
        obtain ⟨q1, q2⟩ := brO_ok hl
        exact ⟨fun e => post_mono (fun _ _ _ q => q.weak (selV_t e)) x (finI_ok x hx (q1 e)), fun e => post_mono (fun _ _ _ q => q.weak (selV_f e)) y (finI_ok y hy (q2 e))⟩
      · cases h1'
    · cases h1'
  | .bad i, l, r, h1, hl => by cases h1
def FnsOk (E : Env) (fns : List (Nat × FnI)) : Prop := ∀ f I, lk fns f = some I → FnOk E f I
theorem FnsOk.nil : FnsOk E [] := fun f I h => by simp [lk] at h
theorem FnsOk.cons {f : Nat} {I : FnI} {r : List (Nat × FnI)} (h : FnOk E f I) (k : FnsOk E r) : FnsOk E ((f, I) :: r) := fun g J hg => by
  rw [lk_cons] at hg
  split at hg
  · rename_i e; subst e; injection hg with hg; subst hg; exact h
  · exact k g J hg
/-- All truth values plain, rounds as many as there are. -/
def FnI.plain (un : Option Nat) (I : FnI) : FnI := match un with | some n => ⟨I.nt, I.res, I.code, ⟨I.F.live, I.F.ord, I.F.hd, I.F.wr, n, true, []⟩, I.imp⟩ | none => I
theorem FnOk.plain {f : FuncId} {I : FnI} (h : FnOk E f I) (un : Option Nat) : FnOk E f (I.plain un) := by
  cases un with
  | none => exact h
  | some n => exact ⟨h.fn, h.en, h.ord⟩
/-- A call, reckoned. -/
noncomputable def inlP (tab : List (Nat × Ty)) (eqs : List (Nat × List Kd)) (fns : List (Nat × FnI)) (un : Option Nat) (c : Cs) (f : FuncId) (args : List V) : Option (List Ob × V) :=
  match lkr fns f with
  | some I => match Nat.ble args.length I.nt && !I.imp with
    | true => match finI tab I.res ⟨0, []⟩ (bodyX tab eqs c (I.plain un) args) with
      | some (l, r) => match r.pure && pureL args with
        | true => some (l, r)
        | false => some ([.p (Stk f)], .un)
      | none => some ([.p (Stk f), .p ((bodyX tab eqs c (I.plain un) args).vc ⟨0, []⟩ (fun _ _ _ => True))], .un)
    | false => none
  | none => none
theorem stk_ob {f : Nat} {r : List Ob} (h : obsL (.p (Stk f) :: r)) : False := by
  have := (obsL_cons h).1
  unfold Ob.all at this
  cases this
theorem inlP_ok {eqs : List (Nat × List Kd)} {fns : List (Nat × FnI)} {un : Option Nat} {f : FuncId} {args : List V} {l : List Ob} {r : V} (hf : FnsOk E fns) (he : EqT E eqs) (hc : CsOk E c) (h1 : inlP E.tab eqs fns un c f args = some (l, r)) (hl : obsL l) : Enters E f ∧ Fn E f args r := by
  unfold inlP at h1
  rw [lkr_eq] at h1
  split at h1
  · rename_i I hI
    split at h1
    · rename_i hle0
      have hle := (and_split hle0).1
      split at h1
      · rename_i l' r' hfin
        split at h1
        · rename_i hp
          injection h1 with h1; simp only [Prod.mk.injEq] at h1; obtain ⟨rfl, rfl⟩ := h1
          obtain ⟨hp, ha⟩ := and_split hp
          have hk := hf f I hI
          have hk' := hk.plain un
          obtain ⟨fn, g1, g2, g3, g4⟩ := hk'.fn
          have hres : (I.plain un).res = I.res := by cases un <;> rfl
          have hnt : (I.plain un).nt = I.nt := by cases un <;> rfl
          rw [← hres] at hfin
          refine ⟨hk.en, Fn.of_T g1 g2 g3 (by rw [hnt]; exact hle) g4 hp ha (runC_ok (X := fxOf E.tab eqs (I.plain un).F) (c := c) (F := (I.plain un).F) rfl he hc _ hk'.ord (I.plain un).F.kn _ _ QS.noPanic ?_)⟩
          exact post_mono (fun e s h q => ⟨s, h, .refl _, .refl _, q⟩) _ (finI_ok _ hfin hl)
        · injection h1 with h1; simp only [Prod.mk.injEq] at h1; obtain ⟨rfl, _⟩ := h1
          exact (stk_ob hl).elim
      · injection h1 with h1; simp only [Prod.mk.injEq] at h1; obtain ⟨rfl, _⟩ := h1
        exact (stk_ob hl).elim
    · cases h1
  · cases h1
/-- What a body comes to that may write what is at hand, all ways in one. -/
noncomputable def finC (tab : List (Nat × Ty)) (rs : List ResultVar) (h : Hp) (o : Oc) : Option (List Ob × V × Hp) :=
  Oc.rec (fun e s hn _ => match e with
    | .exit _ => none
    | .goto _ => none
    | .panic _ => none
    | .outgrown => none
    | _ => match hn with
      | none => (match resC tab s h.b rs with | some v => some ([], v, h) | none => none)
      | some h' => (match resC tab s h'.b rs with | some v => some ([], v, h') | none => none))
    (fun l _ ih => match ih with | some (l', v, h') => some (appO l l', v, h') | none => none)
    (fun b _ _ ih1 ih2 => match ih1 with | some (l1, v1, h1) => (match ih2 with | some (l2, v2, h2) => some (brO b l1 l2, selV b v1 v2, selH b h1 h2 h.b) | none => none) | none => none)
    (fun _ => none) o
/-- A function's end, of less is known. -/
def QC (E : Env) (rs : List ResultVar) (r : V) (h' : Hp) : Post := fun e s h => (e = .normal ∨ e = .ret) ∧ ∃ v, resC E.tab s h.b rs = some v ∧ VLe v r ∧ HLe h h'
theorem QC.weak {rs : List ResultVar} {r r' : V} {h1 h2 : Hp} (l : VLe r r') (g : HLe h1 h2) {e : Exit} {s : Slots} {h : Hp} (q : QC E rs r h1 e s h) : QC E rs r' h2 e s h := by
  obtain ⟨h1, v, h2, h3, h4⟩ := q
  exact ⟨h1, v, h2, h3.trans l, h4.trans g⟩
theorem QC.noPanic {rs : List ResultVar} {r : V} {h' : Hp} : NoPanic (QC E rs r h') := fun c s h q => by
  rcases q.1 with h | h <;> cases h
theorem finC_ok {rs : List ResultVar} {h : Hp} : ∀ (o : Oc) {l : List Ob} {r : V} {h' : Hp}, finC E.tab rs h o = some (l, r, h') → obsL l → o.post h (QC E rs r h')
  | .ok e s hn kn, l, r, h', h1, hl => by
    have key : ∀ (h2 : Hp), (match resC E.tab s h2.b rs with | some v => some (([] : List Ob), v, h2) | none => none) = some (l, r, h') → (e = .normal ∨ e = .ret) → QC E rs r h' e s h2 := fun h2 q he => by
      split at q
      · rename_i v hv
        injection q with q; simp only [Prod.mk.injEq] at q; obtain ⟨_, rfl, rfl⟩ := q
        exact ⟨he, v, hv, .refl _, .refl _⟩
      · cases q
    cases e with
    | exit _ => cases h1
    | goto _ => cases h1
    | panic _ => cases h1
    | normal => cases hn <;> exact key _ h1 (.inl rfl)
    | ret => cases hn <;> exact key _ h1 (.inr rfl)
    | outgrown => cases h1
  | .ob l0 x, l, r, h', h1, hl => by
    have h1' : (match finC E.tab rs h x with | some (l', v, h') => some (appO l0 l', v, h') | none => none) = some (l, r, h') := h1
    split at h1'
    · rename_i l' v h2 hx
      injection h1' with h1'; simp only [Prod.mk.injEq] at h1'; obtain ⟨rfl, rfl, rfl⟩ := h1'
      rw [appO_eq] at hl
      obtain ⟨h4, h5⟩ := obsL_app hl
      exact ⟨h4, finC_ok x hx h5⟩
    · cases h1'
  | .br b x y, l, r, h', h1, hl => by
    have h1' : (match finC E.tab rs h x with | some (l1, v1, h1) => (match finC E.tab rs h y with | some (l2, v2, h2) => some (brO b l1 l2, selV b v1 v2, selH b h1 h2 h.b) | none => none) | none => none) = some (l, r, h') := h1
    split at h1'
    · rename_i l1 v1 h2 hx
      split at h1'
      · rename_i l2 v2 h3 hy
        injection h1' with h1'; simp only [Prod.mk.injEq] at h1'; obtain ⟨rfl, rfl, rfl⟩ := h1'
        obtain ⟨q1, q2⟩ := brO_ok hl
        exact ⟨fun e => post_mono (fun _ _ _ q => q.weak (selV_t e) (selH_t e _ _ _)) x (finC_ok x hx (q1 e)), fun e => post_mono (fun _ _ _ q => q.weak (selV_f e) (selH_f e _ _ _)) y (finC_ok y hy (q2 e))⟩
      · cases h1'
    · cases h1'
  | .bad i, l, r, h', h1, hl => by cases h1
theorem HR.leH {U : Nat → Prop} {m : Nat → Option Nat} {w : World} {h h' : Hp} (r : HR U m h.n h.b w) (l : HLe h h') : HR U m h'.n h'.b w ∧ Stp h.n U m h.n h.b w U m h'.n h'.b w := by
  have r0 : SR 0 h.n U m [] h { tmps := #[], defers := [] } w := ⟨fun t v hv => by simp [lk] at hv, rfl, rfl, r, Nat.le_refl _⟩
  obtain ⟨r1, st⟩ := r0.leH l
  exact ⟨r1.heap, st⟩
theorem Call.of_T {f : FuncId} {fn : Func} {code : Code} {nt : Nat} {rs : List ResultVar} {args : List V} {rv : V} {h h' : Hp} (hf : E.P.funcs[f]? = some fn) (hb : fn.body = some code) (hnt : fn.ntmps = nt) (hle : Nat.ble args.length nt = true) (hres : fn.results = rs.toArray)
    (t : T E nt h.n code (argS 0 args) h (QC E rs rv h')) : Call E f args h (fun r' h'' => r' = rv ∧ h'' = h') := fun U m w vs hH hV => by
  have hle' := Nat.le_of_ble_eq_true hle
  have hlen := hV.len
  have r0 : SR nt h.n U m (argS 0 args) h { tmps := vs ++ Array.replicate (fn.ntmps - vs.size) undef, defers := [] } w := by
    refine ⟨fun t v hv => ?_, ?_, rfl, hH, Nat.le_refl _⟩
    · obtain ⟨_, h1⟩ := argS_get args 0 t v hv
      have ht : t < vs.size := by rw [← hlen]; exact (List.getElem?_eq_some_iff.1 h1).1
      exact ⟨vs[t], by simp [Array.getElem?_append, ht], hV.at_ t v _ h1 (by simp [ht])⟩
    · simp only [Array.size_append, Array.size_replicate]; omega
  refine calls_of_wp hf hb (wp_mono (t U m _ w r0) fun e a' w' ⟨U', m', s', h2, q, r1, st⟩ => ?_)
  obtain ⟨he, v, hrv, hq, hl⟩ := q
  obtain ⟨x, g1, g2⟩ := resC_run r1 hres hrv
  obtain ⟨r2, st2⟩ := r1.heap.leH hl
  have g3 : VR U' m' h'.n w' rv x := (g1.le hq).mono (fun _ h => h) (fun _ _ => rfl) (fun _ _ h => h) hl.1 (fun _ _ => rfl)
  have : a'.defers = [] ∧ ∃ v, (results fn a'.tmps).run E.P w' = .ok v w' ∧ ∃ (r : V) (R0 : Value) (U' : Nat → Prop) (m' : Nat → Option Nat) (h'' : Hp), (Ending.returned v : Ending) = .returned R0 ∧ (r = rv ∧ h'' = h') ∧ VR U' m' h''.n w' r R0 ∧ HR U' m' h''.n h''.b w' ∧ Stp h.n U m h.n h.b w U' m' h''.n h''.b w' :=
    ⟨r1.defers, x, g2, rv, _, U', m', h', rfl, ⟨rfl, rfl⟩, g3, r2, st.trans (st2.low r1.base)⟩
  rcases he with rfl | rfl <;> exact this
/-- A call that may write what is at hand, reckoned. -/
noncomputable def inlC (tab : List (Nat × Ty)) (eqs : List (Nat × List Kd)) (fns : List (Nat × FnI)) (un : Option Nat) (c : Cs) (f : FuncId) (args : List V) (h : Hp) : Option (List Ob × V × Hp) :=
  match lkr fns f with
  | some I => match Nat.ble args.length I.nt with
    | true => match finC tab I.res h (runC (fxOf tab eqs (I.plain un).F) c (I.plain un).F h.n I.nt I.code (I.plain un).F.kn (argS 0 args) h) with
      | some x => some x
      | none => some ([.p (Stk f), .p ((runC (fxOf tab eqs (I.plain un).F) c (I.plain un).F h.n I.nt I.code (I.plain un).F.kn (argS 0 args) h).vc h (fun _ _ _ => True))], .un, h)
    | false => none
  | none => none
theorem inlC_ok {eqs : List (Nat × List Kd)} {fns : List (Nat × FnI)} {un : Option Nat} {f : FuncId} {args : List V} {h h' : Hp} {l : List Ob} {r : V} (hf : FnsOk E fns) (he : EqT E eqs) (hc : CsOk E c) (h1 : inlC E.tab eqs fns un c f args h = some (l, r, h')) (hl : obsL l) : Enters E f ∧ Call E f args h (fun r' h'' => r' = r ∧ h'' = h') := by
  unfold inlC at h1
  rw [lkr_eq] at h1
  split at h1
  · rename_i I hI
    split at h1
    · rename_i hle
      split at h1
      · rename_i x hfin
        injection h1 with h1; subst h1
        have hk := hf f I hI
        have hk' := hk.plain un
        obtain ⟨fn, g1, g2, g3, g4⟩ := hk.fn
        have hcode : (I.plain un).code = I.code := by cases un <;> rfl
        have ho := hk'.ord
        rw [hcode] at ho
        refine ⟨hk.en, Call.of_T g1 g2 g3 hle g4 (runC_ok (X := fxOf E.tab eqs (I.plain un).F) (c := c) (F := (I.plain un).F) rfl he hc _ ho (I.plain un).F.kn _ _ QC.noPanic ?_)⟩
        exact post_mono (fun e s h q => ⟨s, h, .refl _, .refl _, q⟩) _ (finC_ok _ hfin hl)
      · injection h1 with h1; simp only [Prod.mk.injEq] at h1; obtain ⟨rfl, _⟩ := h1
        exact (stk_ob hl).elim
    · cases h1
  · cases h1
/-- Calls, so deep, reckoned, where the tables don't tell. -/
noncomputable def csN (tab : List (Nat × Ty)) (eqs : List (Nat × List Kd)) (fns : List (Nat × FnI)) (un : Option Nat) (T : Cs) (n : Nat) : Cs :=
  Nat.rec T (fun _ c => ⟨fun f args => match T.P f args with | some x => some x | none => inlP tab eqs fns un c f args, fun f args h => match T.C f args h with | some x => some x | none => inlC tab eqs fns un c f args h⟩) n
theorem csN_ok {eqs : List (Nat × List Kd)} {fns : List (Nat × FnI)} {un : Option Nat} {T : Cs} (hf : FnsOk E fns) (he : EqT E eqs) (hT : CsOk E T) : ∀ n, CsOk E (csN E.tab eqs fns un T n)
  | 0 => hT
  | n + 1 => by
    refine ⟨fun f args l r h1 hl => ?_, fun f args h l r h' h1 hl => ?_⟩
    · have h1' : (match T.P f args with | some x => some x | none => inlP E.tab eqs fns un (csN E.tab eqs fns un T n) f args) = some (l, r) := h1
      split at h1'
      · rename_i hx; injection h1' with h1'; subst h1'; exact hT.P _ _ _ _ hx hl
      · exact inlP_ok hf he (csN_ok hf he hT n) h1' hl
    · have h1' : (match T.C f args h with | some x => some x | none => inlC E.tab eqs fns un (csN E.tab eqs fns un T n) f args h) = some (l, r, h') := h1
      split at h1'
      · rename_i hx; injection h1' with h1'; subst h1'; exact hT.C _ _ _ _ _ _ hx hl
      · exact inlC_ok hf he (csN_ok hf he hT n) h1' hl
/-- What is known of some pure functions. -/
def PtOk (E : Env) (pt : List (Nat × (List V → Option (List Ob × V)))) : Prop := ∀ f g, lk pt f = some g → Enters E f ∧ ∀ args l r, g args = some (l, r) → obsL l → Fn E f args r
theorem PtOk.nil : PtOk E [] := fun f I h => by simp [lk] at h
theorem PtOk.cons {f : Nat} {g : List V → Option (List Ob × V)} {r : List (Nat × (List V → Option (List Ob × V)))} (he : Enters E f) (h : ∀ args l r, g args = some (l, r) → obsL l → Fn E f args r) (k : PtOk E r) : PtOk E ((f, g) :: r) := fun g' J hg => by
  rw [lk_cons] at hg
  split at hg
  · rename_i e; subst e; injection hg with hg; subst hg; exact ⟨he, h⟩
  · exact k g' J hg
noncomputable def csP (pt : List (Nat × (List V → Option (List Ob × V)))) : Cs := ⟨fun f args => match lkr pt f with | some g => g args | none => none, fun _ _ _ => none⟩
theorem csP_ok {pt : List (Nat × (List V → Option (List Ob × V)))} (h : PtOk E pt) : CsOk E (csP pt) := by
  refine ⟨fun f args l r h1 hl => ?_, fun f args h l r h' h1 => ?_⟩
  · have h1' : (match lkr pt f with | some g => g args | none => none) = some (l, r) := h1
    rw [lkr_eq] at h1'
    split at h1'
    · rename_i g hg
      exact ⟨(h f g hg).1, (h f g hg).2 _ _ _ h1' hl⟩
    · cases h1'
  · cases (h1 : (none : Option (List Ob × V × Hp)) = some (l, r, h'))
theorem EqT.nil : EqT E [] := ⟨fun t ks h => by simp [lk] at h⟩
theorem EqT.cons {t : Nat} {ks : List Kd} {r : List (Nat × List Kd)} (h : EqTy E 10000 t ks) (g : E.P.eqGuardType E.P.depth t = false) (k : EqT E r) : EqT E ((t, ks) :: r) := ⟨fun u js hu => by
  rw [lk_cons] at hu
  split at hu
  · rename_i e; subst e; injection hu with hu; subst hu; exact ⟨h, g⟩
  · exact k.ok u js hu⟩
end
/-- The same function, with other words to the reckoner. -/
def FnI.tune (I : FnI) (unr : Nat) (kn wr : List Nat) : FnI := ⟨I.nt, I.res, I.code, ⟨I.F.live, I.F.ord, I.F.hd, wr, unr, I.F.lit, kn⟩, I.imp⟩
theorem FnOk.tune {E : Env} {f : FuncId} {I : FnI} (h : FnOk E f I) (unr : Nat) (kn wr : List Nat) : FnOk E f (I.tune unr kn wr) := ⟨h.fn, h.en, h.ord⟩
def bodyOf (f : Func) : Code := match f.body with | some c => c | none => .skip
theorem vc_of {P P' : Prop} (e : P = P') (h : P') : VC P := ⟨e ▸ h⟩
theorem vc_eq {P : Prop} {α : Type} (a : α) (e : P = (a = a)) : VC P := ⟨e ▸ rfl⟩
theorem need_iff {c : Bool} {P : Prop} : (cond c P False) ↔ (c = true ∧ P) := by cases c <;> simp
theorem way_iff {c : Bool} {P Q : Prop} : (cond c P Q) ↔ ((c = true → P) ∧ (c = false → Q)) := by cases c <;> simp
end Go.Proofs.Ythkoinngmcpjgaa

/-
  The reckoner in a proof: code by its place, loops. Conditions: none.
-/
namespace Go.Proofs.Ythkoinngmcpjgaa
open Go.RowKit Oc

/-- A piece of code, by its place: false: the first part, or the body; true: the second part. -/
def childC (c : Code) (b : Bool) : Code :=
  match c with
  | .seq x y => match b with | true => y | false => x
  | .cond _ x y => match b with | true => y | false => x
  | .block _ x => x
  | .loop x => x
  | .scope x => x
  | .rangeFunc _ _ x y => match b with | true => y | false => x
  | c => c
noncomputable def sub (c : Code) (π : List Bool) : Code := List.rec (motive := fun _ => Code → Code) (fun c => c) (fun b _ ih c => ih (childC c b)) π c
theorem sub_nil (c : Code) : sub c [] = c := rfl
theorem sub_app (π : List Bool) (b : Bool) : ∀ c : Code, sub c (π ++ [b]) = childC (sub c π) b := by
  induction π with
  | nil => exact fun c => rfl
  | cons a π ih => exact fun c => ih (childC c a)
def isSeq : Code → Bool
  | .seq _ _ => true
  | _ => false
def isLoop : Code → Bool
  | .loop _ => true
  | _ => false
def blkId : Code → Option Nat
  | .block i _ => some i
  | _ => none
theorem ordC_child {ord : List (Nat × Od)} {c : Code} (b : Bool) (h : ordC ord c = true) : ordC ord (childC c b) = true := by
  cases c <;> cases b <;> first
    | exact h
    | exact (and_split (show (ordC ord _ && ordC ord _) = true from h)).1
    | exact (and_split (show (ordC ord _ && ordC ord _) = true from h)).2
theorem ordC_sub {ord : List (Nat × Od)} (π : List Bool) : ∀ {c : Code}, ordC ord c = true → ordC ord (sub c π) = true := by
  induction π with
  | nil => exact fun h => h
  | cons b π ih => exact fun h => ih (ordC_child b h)
/-- Code from a symbolic state on. -/
structure TS (E : Env) (k B : Nat) (c : Code) (s : Slots) (h : Hp) (Q : Post) : Prop where
  t : T E k B c s h Q

/-- Blocks of which less is known, or that are forgotten. -/
def BSub (b b' : Heap) : Prop := ∀ i y, lk b' i = some (some y) → ∃ x, lk b i = some (some x) ∧ BkLe x y
theorem BSub.nil (b : Heap) : BSub b [] := fun i y h => by simp [lk] at h
theorem BSub.cons {b b' : Heap} {i : Nat} {x y : Blk} (h : lk b i = some (some x)) (l : BkLe x y) (k : BSub b b') : BSub b ((i, some y) :: b') := fun j z hz => by
  rw [lk_cons] at hz
  split at hz
  · rename_i e; subst e; injection hz with hz; injection hz with hz; subst hz
    exact ⟨x, h, l⟩
  · exact k j z hz
theorem SLe.nil (s : Slots) : SLe s [] := fun t v h => by simp [lk] at h
theorem SLe.cons {s r : Slots} {t : Nat} {u v : V} (h : lk s t = some u) (l : VLe u v) (k : SLe s r) : SLe s ((t, v) :: r) := fun j z hz => by
  rw [lk_cons] at hz
  split at hz
  · rename_i e; subst e; injection hz with hz; subst hz
    exact ⟨u, h, l⟩
  · exact k j z hz
section
variable {E : Env} {k B : Nat} {s s' : Slots} {h h' : Hp} {Q Q' : Post} {U : Nat → Prop} {m : Nat → Option Nat} {a : Act} {w : World} {code : Code} {π : List Bool}
/-- A state of which less is known; what names a block that is forgotten is not named any more. -/
structure StLe (B : Nat) (s : Slots) (h : Hp) (s' : Slots) (h' : Hp) : Prop where
  sl : SLe s s'
  bl : BSub h.b h'.b
  ls : lowS h'.n s' = true
  lh : lowH h'.n h'.b = true
  hB : B ≤ h'.n
theorem SR.stle (r : SR k B U m s h a w) (l : StLe B s h s' h') : SR k B U m s' h' a w where
  slots := fun t v hv => by
    obtain ⟨x, hx, hvr⟩ := (r.sle l.sl).slots t v hv
    exact ⟨x, hx, hvr.low (lowS_get l.ls hv)⟩
  size := r.size
  defers := r.defers
  heap := ⟨fun id blk h3 => by
      obtain ⟨x, h4, h5⟩ := l.bl id blk h3
      exact ⟨(lowH_get l.lh h3).1, (h5 _ _ _ _ _ (r.heap.live id x h4).2).low (lowH_get l.lh h3).2⟩,
    fun id blk x h3 h4 => by
      obtain ⟨y, h5, _⟩ := l.bl id blk h3
      exact r.heap.ok id y x h5 h4,
    fun id id' blk blk' x h3 h4 h5 h6 => by
      obtain ⟨y, e1, _⟩ := l.bl id blk h3
      obtain ⟨y', e2, _⟩ := l.bl id' blk' h4
      exact r.heap.inj id id' y y' x e1 e2 h5 h6, r.heap.ulow⟩
  base := l.hB
theorem Stp.stle {U' : Nat → Prop} {m' : Nat → Option Nat} {w' : World} {n n1 n2 : Nat} {b b1 b' : Heap} (st : Stp B U m n b w U' m' n1 b1 w') (hb : BSub b1 b') (hn : n ≤ n2) : Stp B U m n b w U' m' n2 b' w' :=
  { st with hn := hn, own := fun x hx h => st.own x hx (by obtain ⟨id, blk, h1, h2⟩ := h; obtain ⟨y, h3, _⟩ := hb _ _ h1; exact ⟨id, y, h3, h2⟩) }
/-- A round's end: the head's state for another y. -/
structure Again {α : Type} (B : Nat) (S : α → Slots) (H : α → Hp) (I : α → Prop) (μ : α → Nat) (x : α) (s : Slots) (h : Hp) : Prop where
  again : ∃ y, I y ∧ μ y < μ x ∧ (H x).n ≤ (H y).n ∧ StLe B s h (S y) (H y)
/-- A loop. -/
theorem TS.loop {α : Type} (S : α → Slots) (H : α → Hp) (I : α → Prop) (μ : α → Nat) (x : α) (hc : isLoop (sub code π) = true) (hl : StLe B s h (S x) (H x)) (hn : h.n ≤ (H x).n) (hI : I x)
    (round : ∀ x, I x → TS E k B (sub code (π ++ [false])) (S x) (H x) (thenP (Again B S H I μ x) Q)) : TS E k B (sub code π) s h Q := by
  have hb : ∃ c, sub code π = .loop c ∧ sub code (π ++ [false]) = c := by
    rw [sub_app]
    cases hs : sub code π <;> rw [hs] at hc <;> first | exact ⟨_, rfl, rfl⟩ | cases hc
  obtain ⟨c, hc1, hc2⟩ := hb
  rw [hc2] at round
  rw [hc1]
  have key : ∀ n x, μ x < n → I x → ∀ U m a w, SR k B U m (S x) (H x) a w → Code.rounds E.P c (RP k B U m (H x) w Q) n a w := by
    intro n
    induction n with
    | zero => intro x hx; omega
    | succ n ih =>
      intro x hx hI U m a w r
      rw [rounds_succ]
      refine wp_mono ((round x hI).t U m a w r) fun e a' w' ⟨U', m', s', h', q, r', st⟩ => ?_
      cases e with
      | normal =>
        obtain ⟨y, hy, hm, hn, l⟩ := (q : Again B S H I μ x s' h').again
        have := ih y (by omega) hy U' m' a' w' (r'.stle l)
        refine rounds_mono ?_ _ _ _ this
        exact fun e a2 w2 h2 => RP_trans (h' := H y) (st.stle l.bl hn) h2
      | _ => exact ⟨U', m', s', h', q, r', st⟩
  exact ⟨fun U m a w r => by
    refine wp_loop_rounds (μ x + 1) (rounds_mono ?_ _ _ _ (key _ x (by omega) hI U m a w (r.stle hl)))
    exact fun e a2 w2 h2 => RP_trans (h' := H x) ((Stp.refl B U m h.n h.b w).stle hl.bl hn) h2⟩
theorem TS.seq (hc : isSeq (sub code π) = true) (t : TS E k B (sub code (π ++ [false])) s h (thenP (fun s' h' => TS E k B (sub code (π ++ [true])) s' h' Q) Q)) : TS E k B (sub code π) s h Q := by
  have hb : ∃ x y, sub code π = .seq x y ∧ sub code (π ++ [false]) = x ∧ sub code (π ++ [true]) = y := by
    rw [sub_app, sub_app]
    cases hs : sub code π <;> rw [hs] at hc <;> first | exact ⟨_, _, rfl, rfl, rfl⟩ | cases hc
  obtain ⟨x, y, h1, h2, h3⟩ := hb
  rw [h2, h3] at t
  rw [h1]
  refine ⟨T.seq (T.mono t.t fun e s' h' q => ?_)⟩
  cases e with
  | normal => exact TS.t q
  | _ => exact q
theorem TS.block {i : Nat} (hc : blkId (sub code π) = some i) (t : TS E k B (sub code (π ++ [false])) s h (inBlockP i Q)) : TS E k B (sub code π) s h Q := by
  have hb : ∃ x, sub code π = .block i x ∧ sub code (π ++ [false]) = x := by
    rw [sub_app]
    cases hs : sub code π <;> rw [hs] at hc <;> first | (simp only [blkId, Option.some.injEq] at hc; subst hc; exact ⟨_, rfl, rfl⟩) | cases hc
  obtain ⟨x, h1, h2⟩ := hb
  rw [h2] at t
  rw [h1]
  exact ⟨T.block t.t⟩
/-- A piece, reckoned. -/
theorem TS.run {c : Cs} {F : Fi} {eqs : List (Nat × List Kd)} (kn : List Nat) (ho : ordC F.ord code = true) (he : EqT E eqs) (hc : CsOk E c) (hP : NoPanic Q) (hs : (runC (fxOf E.tab eqs F) c F B k (sub code π) kn s h).Sames)
    (t : VC ((runC (fxOf E.tab eqs F) c F B k (sub code π) kn s h).vc h Q)) : TS E k B (sub code π) s h Q :=
  ⟨runC_ok (X := fxOf E.tab eqs F) (c := c) (F := F) rfl he hc _ (ordC_sub π ho) kn s h hP (post_mono (fun e s h q => ⟨s, h, .refl _, .refl _, q⟩) _ (vc_ok _ hs.sm t.p))⟩
/-- A pure function, by its code. -/
theorem Fn.of_TS {f : FuncId} {I : FnI} {args : List V} {r : V} (hI : FnOk E f I) (hle : Nat.ble args.length I.nt = true) (hp : r.pure = true) (ha : pureL args = true)
    (h : rngL args → TS E I.nt 0 (sub I.code []) (argS 0 args) ⟨0, []⟩ (QF E.tab I.res r)) : Fn E f args r := Fn.range hp ha fun hr => by
  obtain ⟨fn, h1, h2, h3, h4⟩ := hI.fn
  exact Fn.of_T h1 h2 h3 hle h4 hp ha (T.mono (h hr).t fun e s h q => q.ok)
theorem QF.noPanic {tab : List (Nat × Ty)} {rs : List ResultVar} {r : V} : NoPanic (QF tab rs r) := fun c s h q => by
  cases (q : Stk 4002)
theorem Again.noPanic {α : Type} {S : α → Slots} {H : α → Hp} {I : α → Prop} {μ : α → Nat} {x : α} (h : NoPanic Q) : NoPanic (thenP (Again B S H I μ x) Q) := NoPanic.thenP h
end
end Go.Proofs.Ythkoinngmcpjgaa

/-
  The reckoner: what a law is handed, as numbers, truth values and functions. Conditions: none.
-/
namespace Go.Proofs.Ythkoinngmcpjgaa
open Go.RowKit

def Ix : Nat → Type
  | 0 => Unit
  | c + 1 => Nat × Ix c
def Fam (α : Type) : Nat → Type
  | 0 => α
  | c + 1 => Nat → Fam α c
def ap {α : Type} : (c : Nat) → Fam α c → Ix c → α
  | 0, a, _ => a
  | c + 1, f, (i, r) => ap c (f i) r
def lam {α : Type} : (c : Nat) → (Ix c → α) → Fam α c
  | 0, f => f ()
  | c + 1, f => fun i => lam c (fun r => f (i, r))
theorem ap_lam {α : Type} : ∀ (c : Nat) (f : Ix c → α) (i : Ix c), ap c (lam c f) i = f i
  | 0, _, () => rfl
  | c + 1, f, (i, r) => ap_lam c (fun r => f (i, r)) r
section
variable {c : Nat}
def AllFs (p : TypeId → ((Ix c → List D) → Prop) → Prop) : List Field → ((Ix c → List D) → Prop) → Prop
  | [], P => P (fun _ => [])
  | f :: fs, P => p f.type (fun a => AllFs p fs (fun b => P (fun i => a i ++ b i)))
def AllA (p : ((Ix c → List D) → Prop) → Prop) : Nat → ((Ix c → List D) → Prop) → Prop
  | 0, P => P (fun _ => [])
  | n + 1, P => p (fun a => AllA p n (fun b => P (fun i => a i ++ b i)))
end
/-- For all data of a type. -/
def AllT (tab : List (Nat × Ty)) : (d : Nat) → (c : Nat) → TypeId → ((Ix c → List D) → Prop) → Prop
  | 0, _, _, _ => True
  | d + 1, c, t, P => match lk tab t with
    | none => True
    | some ty => match ty.d with
      | .bool => ∀ g : Fam Bool c, P (fun i => [.bool (ap c g i)])
      | .int k => ∀ g : Fam Int c, P (fun i => [.int k (ap c g i)])
      | .string => ∀ g : Fam ByteArray c, P (fun i => [.str (ap c g i)])
      | .slice e => ∀ n : Fam Nat c, AllT tab d (c + 1) e (fun F => P (fun i => [.rows (ap c n i) (sizeT tab e) (fun j => F (j, i))]))
      | .struct fs => AllFs (AllT tab d c) fs.toList P
      | .array n e => AllA (AllT tab d c e) n P
      | _ => True
/-- Less is known of data. -/
def DLe (a b : D) : Prop := ∀ U w v, DR U w a v → DR U w b v
inductive DsLe : List D → List D → Prop where
  | nil : DsLe [] []
  | cons {a b : D} {l m : List D} (h : DLe a b) (k : DsLe l m) : DsLe (a :: l) (b :: m)
theorem DLe.refl (a : D) : DLe a a := fun _ _ _ h => h
theorem DsLe.refl : ∀ l : List D, DsLe l l
  | [] => .nil
  | a :: l => .cons (.refl a) (DsLe.refl l)
theorem DsLe.of_eq {l m : List D} (h : l = m) : DsLe l m := h ▸ .refl l
theorem DsLe.app {a b c d : List D} (h : DsLe a b) (k : DsLe c d) : DsLe (a ++ c) (b ++ d) := by
  induction h with
  | nil => exact k
  | cons h _ ih => exact .cons h ih
theorem DsLe.len {l m : List D} (h : DsLe l m) : l.length = m.length := by
  induction h with
  | nil => rfl
  | cons _ _ ih => simp [ih]
theorem DsLe.get {l m : List D} (h : DsLe l m) : ∀ (j : Nat) (y : D), m[j]? = some y → ∃ x, l[j]? = some x ∧ DLe x y := by
  induction h with
  | nil => intro j y h; simp at h
  | cons h _ ih =>
    intro j y hy
    cases j with
    | zero => simp at hy; subst hy; exact ⟨_, rfl, h⟩
    | succ j => obtain ⟨x, h1, h2⟩ := ih j y (by simpa using hy); exact ⟨x, by simpa using h1, h2⟩
theorem DLe.lst {n : Nat} {l m : List D} (h : DsLe l m) : DLe (.lst n l) (.lst n m) := fun U w v k => by
  cases k with
  | lst f hk hc ha hv => exact .lst f hk hc (fun j hj => ha j (by rw [h.len]; exact hj)) (fun j y hy => by
      obtain ⟨x, h1, h2⟩ := h.get j y hy
      exact h2 _ _ _ (hv j x h1))
theorem flatN_le {n : Nat} {f g : Nat → List D} (h : ∀ i, i < n → DsLe (f i) (g i)) : DsLe (flatN n f) (flatN n g) := by
  induction n with
  | zero => exact .nil
  | succ n ih => rw [flatN_last, flatN_last]; exact (ih fun i hi => h i (by omega)).app (h n (by omega))
theorem flatten_flatN (l : List (List D)) : l.flatten = flatN l.length (fun j => l.getD j []) := by
  induction l with
  | nil => rfl
  | cons x l ih => rw [List.length_cons, flatN_succ, List.flatten_cons, ih]; rfl
theorem DLe.rows {e : Nat} {l : List (List D)} {f : Nat → List D} (h : ∀ i, i < l.length → DsLe (l.getD i []) (f i)) (hl : ∀ x ∈ l, x.length = e) : DLe (.lst l.length l.flatten) (.rows l.length e f) := fun U w v k => by
  refine .rows (fun i hi => ?_) ?_
  · rw [← (h i hi).len, List.getD_eq_getElem?_getD, List.getElem?_eq_getElem hi]; exact hl _ (List.getElem_mem hi)
  · rw [flatten_flatN] at k
    exact DLe.lst (flatN_le h) _ _ _ k
theorem fs_len {tab : List (Nat × Ty)} {d : Nat} (hp : ∀ t cs, okT tab d t = true → OfT tab d t cs → cs.length = sizeT tab t) : ∀ (fs : List Field) (o z : Nat) (cs : List D), okFs tab (okT tab d) fs o z = true → OfFs (OfT tab d) fs cs → o + cs.length = z
  | [], o, z, cs, h, k => by
    simp only [OfFs] at k; subst k
    simpa [okFs] using h
  | f :: fs, o, z, cs, h, k => by
    obtain ⟨a, b, rfl, h1, h2⟩ := k
    simp only [okFs, Bool.and_eq_true, beq_iff_eq] at h
    have := fs_len hp fs _ z b h.2 h2
    have := hp _ a h.1.2 h1
    rw [List.length_append]; omega
theorem OfT_len {tab : List (Nat × Ty)} : ∀ (d : Nat) (t : TypeId) (cs : List D), okT tab d t = true → OfT tab d t cs → cs.length = sizeT tab t
  | 0, t, cs, h, _ => by simp [okT] at h
  | d + 1, t, cs, h, k => by
    unfold okT at h
    unfold OfT at k
    unfold sizeT
    split at h
    · cases h
    · rename_i ty hl
      rw [hl] at k
      simp only [hl] at k ⊢
      cases hd : ty.d <;> simp only [hd] at h k <;> try (cases h; done)
      case bool => obtain ⟨b, rfl⟩ := k; simpa using (beq_iff_eq.1 h).symm
      case int => obtain ⟨b, rfl, _⟩ := k; simpa using (beq_iff_eq.1 h).symm
      case string => obtain ⟨b, rfl, _⟩ := k; simpa using (beq_iff_eq.1 h).symm
      case slice e =>
        obtain ⟨l, _, rfl, _⟩ := k
        simp only [Bool.and_eq_true, beq_iff_eq] at h
        simpa using h.1.symm
      case struct fs =>
        have := fs_len (fun t cs => OfT_len d t cs) _ _ _ _ h k
        omega
      case array n e =>
        obtain ⟨l, rfl, rfl, hx⟩ := k
        simp only [Bool.and_eq_true, beq_iff_eq] at h
        rw [h.2, flatten_len l (fun x hm => OfT_len d e x h.1 (hx x hm))]
open Classical in
theorem all_fs {tab : List (Nat × Ty)} {d c : Nat} (hp : ∀ t (Dm : Ix c → Prop) (F : Ix c → List D) P, okT tab d t = true → (∀ i, Dm i → OfT tab d t (F i)) → AllT tab d c t P → ∃ F', (∀ i, Dm i → DsLe (F i) (F' i)) ∧ P F') :
    ∀ (fs : List Field) (o z : Nat) (Dm : Ix c → Prop) (F : Ix c → List D) (P : (Ix c → List D) → Prop), okFs tab (okT tab d) fs o z = true → (∀ i, Dm i → OfFs (OfT tab d) fs (F i)) → AllFs (AllT tab d c) fs P → ∃ F', (∀ i, Dm i → DsLe (F i) (F' i)) ∧ P F'
  | [], o, z, Dm, F, P, hok, h, k => ⟨fun _ => [], fun i hi => .of_eq (h i hi), k⟩
  | f :: fs, o, z, Dm, F, P, hok, h, k => by
    simp only [okFs, Bool.and_eq_true, beq_iff_eq] at hok
    let A : Ix c → List D := fun i => if hi : Dm i then (h i hi).choose else []
    let B : Ix c → List D := fun i => if hi : Dm i then (h i hi).choose_spec.choose else []
    have hA : ∀ i (hi : Dm i), F i = A i ++ B i ∧ OfT tab d f.type (A i) ∧ OfFs (OfT tab d) fs (B i) := fun i hi => by
      have := (h i hi).choose_spec.choose_spec
      simpa only [A, B, dif_pos hi] using this
    obtain ⟨A', h1, h2⟩ := hp f.type Dm A _ hok.1.2 (fun i hi => (hA i hi).2.1) k
    obtain ⟨B', h3, h4⟩ := all_fs hp fs _ z Dm B _ hok.2 (fun i hi => (hA i hi).2.2) h2
    exact ⟨_, fun i hi => by rw [(hA i hi).1]; exact (h1 i hi).app (h3 i hi), h4⟩
theorem all_a {tab : List (Nat × Ty)} {d c : Nat} {e : TypeId} (hok : okT tab d e = true) (hp : ∀ t (Dm : Ix c → Prop) (F : Ix c → List D) P, okT tab d t = true → (∀ i, Dm i → OfT tab d t (F i)) → AllT tab d c t P → ∃ F', (∀ i, Dm i → DsLe (F i) (F' i)) ∧ P F') :
    ∀ (n : Nat) (Dm : Ix c → Prop) (L : Ix c → List (List D)) (P : (Ix c → List D) → Prop), (∀ i, Dm i → (L i).length = n ∧ ∀ x ∈ L i, OfT tab d e x) → AllA (AllT tab d c e) n P → ∃ F', (∀ i, Dm i → DsLe (L i).flatten (F' i)) ∧ P F'
  | 0, Dm, L, P, h, k => ⟨fun _ => [], fun i hi => by rw [List.length_eq_zero_iff.1 (h i hi).1]; exact .nil, k⟩
  | n + 1, Dm, L, P, h, k => by
    have hL : ∀ i, Dm i → L i = (L i).headD [] :: (L i).tail := fun i hi => by
      have := (h i hi).1
      cases hl : L i with
      | nil => rw [hl] at this; simp at this
      | cons a r => rfl
    obtain ⟨A', h1, h2⟩ := hp e Dm (fun i => (L i).headD []) _ hok (fun i hi => (h i hi).2 _ (by rw [hL i hi]; simp)) k
    obtain ⟨B', h3, h4⟩ := all_a hok hp n Dm (fun i => (L i).tail) _ (fun i hi => ⟨by rw [List.length_tail, (h i hi).1]; rfl, fun x hx => (h i hi).2 x (by rw [hL i hi]; exact List.mem_cons_of_mem _ hx)⟩) h2
    exact ⟨_, fun i hi => by rw [hL i hi, List.flatten_cons]; exact (h1 i hi).app (h3 i hi), h4⟩
open Classical in
theorem all_t {tab : List (Nat × Ty)} : ∀ (d c : Nat) (t : TypeId) (Dm : Ix c → Prop) (F : Ix c → List D) (P : (Ix c → List D) → Prop), okT tab d t = true → (∀ i, Dm i → OfT tab d t (F i)) → AllT tab d c t P → ∃ F', (∀ i, Dm i → DsLe (F i) (F' i)) ∧ P F'
  | 0, c, t, Dm, F, P, h, _, _ => by simp [okT] at h
  | d + 1, c, t, Dm, F, P, hok, h, k => by
    unfold okT at hok
    unfold AllT at k
    split at hok
    · cases hok
    · rename_i ty hl
      simp only [OfT, hl] at h k
      cases hd : ty.d <;> simp only [hd] at hok h k <;> try (cases hok; done)
      case bool =>
        let g : Ix c → Bool := fun i => if hi : Dm i then (h i hi).choose else false
        refine ⟨_, fun i hi => ?_, k (lam c g)⟩
        rw [ap_lam]
        simp only [g, dif_pos hi]
        exact .of_eq (h i hi).choose_spec
      case int q =>
        let g : Ix c → Int := fun i => if hi : Dm i then (h i hi).choose else 0
        refine ⟨_, fun i hi => ?_, k (lam c g)⟩
        rw [ap_lam]
        simp only [g, dif_pos hi]
        exact .of_eq (h i hi).choose_spec.1
      case string =>
        let g : Ix c → ByteArray := fun i => if hi : Dm i then (h i hi).choose else ByteArray.empty
        refine ⟨_, fun i hi => ?_, k (lam c g)⟩
        rw [ap_lam]
        simp only [g, dif_pos hi]
        exact .of_eq (h i hi).choose_spec.1
      case slice e =>
        simp only [Bool.and_eq_true, beq_iff_eq] at hok
        let L : Ix c → List (List D) := fun i => if hi : Dm i then (h i hi).choose else []
        have hL : ∀ i, Dm i → F i = [.lst (L i).length (L i).flatten] ∧ ∀ x ∈ L i, OfT tab d e x := fun i hi => by
          have := (h i hi).choose_spec
          simp only [L, dif_pos hi]
          exact this.2
        obtain ⟨G, h1, h2⟩ := all_t d (c + 1) e (fun x => Dm x.2 ∧ x.1 < (L x.2).length) (fun x => (L x.2).getD x.1 []) _ hok.2.1 (fun x hx => by
          rw [List.getD_eq_getElem?_getD, List.getElem?_eq_getElem hx.2]; exact (hL _ hx.1).2 _ (List.getElem_mem hx.2)) (k (lam c fun i => (L i).length))
        refine ⟨_, fun i hi => ?_, h2⟩
        rw [ap_lam, (hL i hi).1]
        exact .cons (DLe.rows (fun j hj => h1 (j, i) ⟨hi, hj⟩) (fun x hx => OfT_len d e x hok.2.1 ((hL i hi).2 x hx))) .nil
      case struct fs => exact all_fs (fun t => all_t d c t) _ _ _ Dm F P hok h k
      case array n e =>
        simp only [Bool.and_eq_true, beq_iff_eq] at hok
        let L : Ix c → List (List D) := fun i => if hi : Dm i then (h i hi).choose else []
        have hL : ∀ i, Dm i → (L i).length = n ∧ F i = (L i).flatten ∧ ∀ x ∈ L i, OfT tab d e x := fun i hi => by
          have := (h i hi).choose_spec
          simpa only [L, dif_pos hi] using this
        obtain ⟨F', h1, h2⟩ := all_a hok.1 (fun t => all_t d c t) n Dm L P (fun i hi => ⟨(hL i hi).1, (hL i hi).2.2⟩) k
        exact ⟨F', fun i hi => by rw [(hL i hi).2.1]; exact h1 i hi, h2⟩
/-- For all values of a type. -/
def AllV (tab : List (Nat × Ty)) (d : Nat) (t : TypeId) (P : V → Prop) : Prop := match lk tab t with
  | none => True
  | some ty => match ty.d with
    | .struct _ => AllT tab d 0 t (fun F => P (.agg ((F ()).map .d)))
    | .array _ _ => AllT tab d 0 t (fun F => P (.agg ((F ()).map .d)))
    | _ => AllT tab d 0 t (fun F => P (match F () with | [c] => .d c | _ => .un))
def AllVs (tab : List (Nat × Ty)) (d : Nat) : List TypeId → (List V → Prop) → Prop
  | [], P => P []
  | t :: ts, P => AllV tab d t (fun x => AllVs tab d ts (fun r => P (x :: r)))
theorem DsLe.llE {l m : List D} (h : DsLe l m) : LLe (l.map .d) (m.map .d) := by
  induction h with
  | nil => exact .nil
  | cons h _ ih => exact .cons (fun U q n w v k => by cases k with | d k => exact .d (h _ _ _ k)) ih
theorem all_v {tab : List (Nat × Ty)} {d : Nat} {t : TypeId} {x : V} {P : V → Prop} (hok : okT tab d t = true) (h : OfV tab d t x) (k : AllV tab d t P) : ∃ y, VLe x y ∧ P y := by
  unfold OfV at h
  unfold AllV at k
  split at h
  · cases h
  · rename_i ty hl
    simp only [hl] at k
    have agg : (∃ ds, x = .agg (ds.map .d) ∧ OfT tab d t ds) → AllT tab d 0 t (fun F => P (.agg ((F ()).map .d))) → ∃ y, VLe x y ∧ P y := fun ⟨ds, e, h⟩ k => by
      obtain ⟨F', h1, h2⟩ := all_t d 0 t (fun _ => True) (fun _ => ds) _ hok (fun _ _ => h) k
      exact ⟨_, by rw [e]; exact VLe.agg (h1 () trivial).llE, h2⟩
    have one : (∃ c, x = .d c ∧ OfT tab d t [c]) → AllT tab d 0 t (fun F => P (match F () with | [c] => .d c | _ => .un)) → ∃ y, VLe x y ∧ P y := fun ⟨c, e, h⟩ k => by
      obtain ⟨F', h1, h2⟩ := all_t d 0 t (fun _ => True) (fun _ => [c]) _ hok (fun _ _ => h) k
      have h3 := h1 () trivial
      generalize F' () = l at h3 h2
      cases h3 with
      | cons h4 h5 => cases h5; exact ⟨_, by rw [e]; exact (fun U q n w v k => by cases k with | d k => exact .d (h4 _ _ _ k)), h2⟩
    cases hd : ty.d <;> simp only [hd] at h k <;> first | exact agg h k | exact one h k
theorem all_vs {tab : List (Nat × Ty)} {d : Nat} : ∀ {ts : List TypeId} {xs : List V} {P : List V → Prop}, okTs tab d ts = true → OfVs tab d ts xs → AllVs tab d ts P → ∃ ys, AL xs ys ∧ P ys
  | [], xs, P, hok, h, k => ⟨[], by rw [show xs = [] from h]; exact .nil, k⟩
  | t :: ts, xs, P, hok, h, k => by
    obtain ⟨x, r, rfl, h1, h2⟩ := h
    have hok' : (okT tab d t && okTs tab d ts) = true := hok
    rw [Bool.and_eq_true] at hok'
    obtain ⟨y, h3, h4⟩ := all_v hok'.1 h1 k
    obtain ⟨ys, h5, h6⟩ := all_vs hok'.2 h2 h4
    exact ⟨y :: ys, .cons h3 h5, h6⟩
theorem Call.leA {E : Env} {f : FuncId} {xs ys : List V} {h : Hp} {Q : V → Hp → Prop} (l : AL xs ys) (c : Call E f ys h Q) : Call E f xs h Q := fun U m w vs hH hV => c U m w vs hH (hV.le l)
/-- More truth values are plain. -/
def FnI.more (I : FnI) (kn : List Nat) : FnI := ⟨I.nt, I.res, I.code, ⟨I.F.live, I.F.ord, I.F.hd, I.F.wr, I.F.unr, I.F.lit, kn ++ I.F.kn⟩, I.imp⟩
theorem FnOk.more {E : Env} {f : FuncId} {I : FnI} (h : FnOk E f I) (kn : List Nat) : FnOk E f (I.more kn) := ⟨h.fn, h.en, h.ord⟩
/-- Slices that are appended to stay cell by cell. -/
def FnI.hold (I : FnI) (hd : List Nat) : FnI := ⟨I.nt, I.res, I.code, ⟨I.F.live, I.F.ord, hd ++ I.F.hd, I.F.wr, I.F.unr, I.F.lit, I.F.kn⟩, I.imp⟩
theorem FnOk.hold {E : Env} {f : FuncId} {I : FnI} (h : FnOk E f I) (hd : List Nat) : FnOk E f (I.hold hd) := ⟨h.fn, h.en, h.ord⟩
/-- A function that is reckoned in the caller's heap: what it makes stays at hand. -/
def FnI.impure (I : FnI) : FnI := ⟨I.nt, I.res, I.code, I.F, true⟩
theorem FnOk.impure {E : Env} {f : FuncId} {I : FnI} (h : FnOk E f I) : FnOk E f I.impure := ⟨h.fn, h.en, h.ord⟩
/-- A region in which some calls are of such functions. -/
noncomputable def FnI.imps (I : FnI) (id : Nat) (l : List Nat) : FnI := ⟨I.nt, I.res, I.code, ⟨I.F.live, I.F.ord.map fun p => (p.1, match Nat.beq p.1 id with | true => ⟨p.2.t, p.2.rk, l⟩ | false => p.2), I.F.hd, I.F.wr, I.F.unr, I.F.lit, I.F.kn⟩, I.imp⟩
theorem FnOk.imps {E : Env} {f : FuncId} {I : FnI} (h : FnOk E f I) {id : Nat} {l : List Nat} (ho : ordC (I.imps id l).F.ord I.code = true) : FnOk E f (I.imps id l) := ⟨h.fn, h.en, ho⟩
/-- A table with a function in other words. -/
theorem FnsOk.in_ {E : Env} {f : Nat} {I : FnI} {fns : List (Nat × FnI)} (h : FnOk E f I) (k : FnsOk E fns) : FnsOk E ((f, I) :: fns) := FnsOk.cons h k
/-- So many rounds of a loop, from a symbolic state on. -/
structure TSR (E : Env) (k B : Nat) (c : Code) (n : Nat) (s : Slots) (h : Hp) (Q : Post) : Prop where
  t : TR E k B c n s h Q
theorem TSR.succ {E : Env} {k B n : Nat} {c : Code} {s : Slots} {h : Hp} {Q : Post} (t : TS E k B c s h (thenP (fun s' h' => TSR E k B c n s' h' Q) Q)) : TSR E k B c (n + 1) s h Q :=
  ⟨TR.succ (T.mono t.t fun e s' h' q => by
    cases e with
    | normal => exact TSR.t q
    | _ => exact q)⟩
theorem TS.rounds {E : Env} {k B : Nat} {code : Code} {π : List Bool} {s : Slots} {h : Hp} {Q : Post} (n : Nat) (hc : isLoop (sub code π) = true) (t : TSR E k B (sub code (π ++ [false])) n s h Q) : TS E k B (sub code π) s h Q := by
  have hb : ∃ c, sub code π = .loop c ∧ sub code (π ++ [false]) = c := by
    rw [sub_app]
    cases hs : sub code π <;> rw [hs] at hc <;> first | exact ⟨_, rfl, rfl⟩ | cases hc
  obtain ⟨c, h1, h2⟩ := hb
  rw [h2] at t
  rw [h1]
  exact ⟨T.rounds n t.t⟩
theorem TSR.noPanic {E : Env} {k B n : Nat} {c : Code} {Q : Post} (h : NoPanic Q) : NoPanic (thenP (fun s' h' => TSR E k B c n s' h' Q) Q) := NoPanic.thenP h
/-- A law, for all it may be handed. -/
theorem law_all {E : Env} {f : FuncId} {d : Nat} {ts : List TypeId} {P' : Prop} (hok : okTs E.tab d ts = true) (e : AllVs E.tab d ts (fun xs => Fn E f xs (vb true)) = P') (h : P') : ∀ xs, OfVs E.tab d ts xs → Call E f xs ⟨0, []⟩ (fun r _ => r = vb true) := fun xs hx => by
  obtain ⟨ys, h1, h2⟩ := all_vs hok hx (e ▸ h)
  exact Call.leA h1 h2.2.2
end Go.Proofs.Ythkoinngmcpjgaa

/-
  The reckoner: calls of which less is at hand than their callers have: names of blocks given anew. Conditions: none.
-/
namespace Go.Proofs.Ythkoinngmcpjgaa
open Go.RowKit

mutual
/-- Names of blocks, given anew. -/
def V.ren (ρ : Nat → Nat) : V → V
  | .un => .un
  | .d x => .d x
  | .nn q x => .nn q x
  | .sl e id off n => .sl e (ρ id) off n
  | .ptr id off => .ptr (ρ id) off
  | .el e id i r => .el e (ρ id) i r
  | .map id => .map (ρ id)
  | .fn f a c => .fn f (renL ρ a) (renL ρ c)
  | .ifc t v => .ifc t (v.ren ρ)
  | .agg cs => .agg (renL ρ cs)
  | .tup vs => .tup (renL ρ vs)
def renL (ρ : Nat → Nat) : List V → List V
  | [] => []
  | v :: r => v.ren ρ :: renL ρ r
end
theorem renL_eq (ρ : Nat → Nat) (l : List V) : renL ρ l = l.map (V.ren ρ) := by
  induction l with
  | nil => rfl
  | cons v r ih => rw [renL, ih, List.map_cons]
theorem renL_get {ρ : Nat → Nat} {l : List V} {j : Nat} {x : V} (h : (renL ρ l)[j]? = some x) : ∃ y, l[j]? = some y ∧ y.ren ρ = x := by
  rw [renL_eq, List.getElem?_map] at h
  exact Option.map_eq_some_iff.1 h
theorem renL_len (ρ : Nat → Nat) (l : List V) : (renL ρ l).length = l.length := by rw [renL_eq, List.length_map]
theorem renL_at {ρ : Nat → Nat} {l : List V} {j : Nat} {y : V} (h : l[j]? = some y) : (renL ρ l)[j]? = some (y.ren ρ) := by rw [renL_eq, List.getElem?_map, h]; rfl
theorem VR.ren {U : Nat → Prop} {m m' : Nat → Option Nat} {n n' : Nat} {w : World} {ρ : Nat → Nat} (hm : ∀ i, i < n → m' (ρ i) = m i ∧ ρ i < n') {v : V} {r : Value} (h : VR U m n w v r) : VR U m' n' w (v.ren ρ) r := by
  induction h with
  | un v => exact .un v
  | d h => exact .d h
  | nn h hn => exact .nn h hn
  | sl hid hx hk hc h1 h2 => exact .sl (hm _ hid).2 ((hm _ hid).1.trans hx) hk hc h1 h2
  | sl0 hid hx => exact .sl0 (hm _ hid).2 ((hm _ hid).1.trans hx)
  | ptr hid hx => exact .ptr (hm _ hid).2 ((hm _ hid).1.trans hx)
  | el hid hx => exact .el (hm _ hid).2 ((hm _ hid).1.trans hx)
  | map hid hx => exact .map (hm _ hid).2 ((hm _ hid).1.trans hx)
  | fn la lc ha hc iha ihc =>
    exact .fn (by rw [renL_len]; exact la) (by rw [renL_len]; exact lc) (fun j x v h1 h2 => by obtain ⟨y, h3, rfl⟩ := renL_get h1; exact iha j y v h3 h2) (fun j x v h1 h2 => by obtain ⟨y, h3, rfl⟩ := renL_get h1; exact ihc j y v h3 h2)
  | ifc h ih => exact .ifc ih
  | agg hl h ih => exact .agg (by rw [renL_len]; exact hl) (fun j x v h1 h2 => by obtain ⟨y, h3, rfl⟩ := renL_get h1; exact ih j y v h3 h2)
  | tup hl h ih => exact .tup (by rw [renL_len]; exact hl) (fun j x v h1 h2 => by obtain ⟨y, h3, rfl⟩ := renL_get h1; exact ih j y v h3 h2)
theorem VR.unren {U : Nat → Prop} {m' : Nat → Option Nat} {n n' : Nat} {w : World} {ρ : Nat → Nat} {u : V} {r : Value} (h : VR U m' n' w u r) : ∀ v : V, u = v.ren ρ → v.lowN n = true → VR U (fun i => m' (ρ i)) n w v r := by
  induction h with
  | un v => intro v e hl; cases v <;> simp only [V.ren, reduceCtorEq] at e; exact .un _
  | d h => intro v e hl; cases v <;> simp only [V.ren, reduceCtorEq, V.d.injEq] at e; subst e; exact .d h
  | nn h hn => intro v e hl; cases v <;> simp only [V.ren, reduceCtorEq, V.nn.injEq] at e; obtain ⟨rfl, rfl⟩ := e; exact .nn h hn
  | sl hid hx hk hc h1 h2 =>
    intro v e hl; cases v <;> simp only [V.ren, reduceCtorEq, V.sl.injEq] at e
    obtain ⟨rfl, rfl, rfl, rfl⟩ := e
    exact .sl (Nat.le_of_ble_eq_true hl) hx hk hc h1 h2
  | sl0 hid hx =>
    intro v e hl; cases v <;> simp only [V.ren, reduceCtorEq, V.sl.injEq] at e
    obtain ⟨rfl, rfl, rfl, rfl⟩ := e
    exact .sl0 (Nat.le_of_ble_eq_true hl) hx
  | ptr hid hx =>
    intro v e hl; cases v <;> simp only [V.ren, reduceCtorEq, V.ptr.injEq] at e
    obtain ⟨rfl, rfl⟩ := e
    exact .ptr (Nat.le_of_ble_eq_true hl) hx
  | el hid hx =>
    intro v e hl; cases v <;> simp only [V.ren, reduceCtorEq, V.el.injEq] at e
    obtain ⟨rfl, rfl, rfl, rfl⟩ := e
    exact .el (Nat.le_of_ble_eq_true hl) hx
  | map hid hx =>
    intro v e hl; cases v <;> simp only [V.ren, reduceCtorEq, V.map.injEq] at e
    subst e
    exact .map (Nat.le_of_ble_eq_true hl) hx
  | fn la lc ha hc iha ihc =>
    intro v e hl; cases v <;> simp only [V.ren, reduceCtorEq, V.fn.injEq] at e
    obtain ⟨rfl, rfl, rfl⟩ := e
    simp only [V.lowN, Bool.and_eq_true] at hl
    exact .fn (by rw [← la, renL_len]) (by rw [← lc, renL_len]) (fun j x v h1 h2 => iha j _ v (renL_at h1) h2 x rfl (lowL_get hl.1 h1)) (fun j x v h1 h2 => ihc j _ v (renL_at h1) h2 x rfl (lowL_get hl.2 h1))
  | ifc h ih =>
    intro v e hl; cases v <;> simp only [V.ren, reduceCtorEq, V.ifc.injEq] at e
    obtain ⟨rfl, rfl⟩ := e
    exact .ifc (ih _ rfl hl)
  | agg h0 h ih =>
    intro v e hl; cases v <;> simp only [V.ren, reduceCtorEq, V.agg.injEq] at e
    subst e
    exact .agg (by rw [← h0, renL_len]) (fun j x v h1 h2 => ih j _ v (renL_at h1) h2 x rfl (lowL_get hl h1))
  | tup h0 h ih =>
    intro v e hl; cases v <;> simp only [V.ren, reduceCtorEq, V.tup.injEq] at e
    subst e
    exact .tup (by rw [← h0, renL_len]) (fun j x v h1 h2 => ih j _ v (renL_at h1) h2 x rfl (lowL_get hl h1))
def Blk.ren (ρ : Nat → Nat) : Blk → Blk
  | .cells cs => .cells (renL ρ cs)
  | .dat cs => .dat cs
  | .rows n e f => .rows n e f
  | .fm q g c has val => .fm q g c has val
theorem BR.ren {U : Nat → Prop} {m m' : Nat → Option Nat} {n n' : Nat} {w : World} {ρ : Nat → Nat} (hm : ∀ i, i < n → m' (ρ i) = m i ∧ ρ i < n') {mx : Option Nat} {k : Blk} (h : BR U m n w mx k) : BR U m' n' w mx (k.ren ρ) := by
  cases h with
  | cells h =>
    obtain ⟨arr, t, h1, h2, h3⟩ := h
    exact .cells ⟨arr, t, h1, by rw [renL_len]; exact h2, fun j c v h4 h5 => by obtain ⟨y, h6, rfl⟩ := renL_get h4; exact (h3 j y v h6 h5).ren hm⟩
  | dat h => exact .dat h
  | rows hl h => exact .rows hl h
  | rows0 => exact .rows0
  | cells0 => exact .cells0
  | dat0 => exact .dat0
  | fm ents clock h r => exact .fm ents clock h r
theorem BR.unren {U : Nat → Prop} {m' : Nat → Option Nat} {n n' : Nat} {w : World} {ρ : Nat → Nat} {mx : Option Nat} {k : Blk} (h : BR U m' n' w mx (k.ren ρ)) (hl : k.lowN n = true) : BR U (fun i => m' (ρ i)) n w mx k := by
  cases k with
  | cells cs =>
    have h : BR U m' n' w mx (.cells (renL ρ cs)) := h
    generalize hc : renL ρ cs = cs' at h
    cases h with
    | cells h =>
      subst hc
      obtain ⟨arr, t, h1, h2, h3⟩ := h
      exact .cells ⟨arr, t, h1, by rw [← renL_len ρ]; exact h2, fun j c v h4 h5 => (h3 j _ v (renL_at h4) h5).unren c rfl (lowL_get hl h4)⟩
    | cells0 =>
      have : cs = [] := List.eq_nil_of_length_eq_zero (by rw [← renL_len ρ, hc]; rfl)
      subst this; exact .cells0
  | dat cs =>
    have h : BR U m' n' w mx (.dat cs) := h
    cases h with
    | dat h => exact .dat h
    | dat0 => exact .dat0
  | rows z e f =>
    have h : BR U m' n' w mx (.rows z e f) := h
    cases h with
    | rows hl h => exact .rows hl h
    | rows0 => exact .rows0
  | fm q g c has val =>
    have h : BR U m' n' w mx (.fm q g c has val) := h
    cases h with
    | fm ents clock hw r => exact .fm ents clock hw r
/-- A few blocks of a caller's, under other names. -/
structure Emb (ρ : Nat → Nat) (h0 h : Hp) : Prop where
  lt : ∀ i, i < h0.n → ρ i < h.n
  inj : ∀ i j, i < h0.n → j < h0.n → ρ i = ρ j → i = j
  blk : ∀ i k, lk h0.b i = some (some k) → lk h.b (ρ i) = some (some (k.ren ρ))
  low : lowH h0.n h0.b = true
/-- Names of old blocks, and of new ones. -/
def upN (ρ : Nat → Nat) (n0 n : Nat) (i : Nat) : Nat := cond (Nat.blt i n0) (ρ i) (n + (i - n0))
noncomputable def killN (ρ : Nat → Nat) (k : Nat) (b : Heap) : Heap := Nat.rec b (fun i acc => setH (ρ i) none acc) k
def renO (g : Nat → Nat) : Option Blk → Option Blk
  | some k => some (k.ren g)
  | none => none
noncomputable def embB (g : Nat → Nat) (b acc : Heap) : Heap := List.rec acc (fun p _ ih => setH (g p.1) (renO g p.2) ih) b
noncomputable def embH (ρ : Nat → Nat) (h0 h h1 : Hp) : Hp := ⟨h.n + (h1.n - h0.n), embB (upN ρ h0.n h.n) h1.b (killN ρ h0.n h.b)⟩
theorem lk_kill {ρ : Nat → Nat} {b : Heap} {i : Nat} {k : Blk} : ∀ {q : Nat}, lk (killN ρ q b) i = some (some k) → lk b i = some (some k) ∧ ∀ j, j < q → ρ j ≠ i
  | 0, h => ⟨h, fun j hj => by omega⟩
  | q + 1, h => by
    have h : lk (setH (ρ q) none (killN ρ q b)) i = some (some k) := h
    rw [← setH_eq, lk_cons] at h
    split at h
    · injection h with h; cases h
    · rename_i hne
      obtain ⟨h1, h2⟩ := lk_kill h
      refine ⟨h1, fun j hj => ?_⟩
      rcases Nat.lt_or_ge j q with h3 | h3
      · exact h2 j h3
      · obtain rfl : j = q := by omega
        exact hne
theorem lk_emb {g : Nat → Nat} {acc : Heap} {i : Nat} {k : Blk} : ∀ {b : Heap}, lk (embB g b acc) i = some (some k) → (∃ i0 k0, lk b i0 = some (some k0) ∧ g i0 = i ∧ k = k0.ren g) ∨ lk acc i = some (some k)
  | [], h => .inr h
  | (j, x) :: r, h => by
    have h : lk (setH (g j) (renO g x) (embB g r acc)) i = some (some k) := h
    rw [← setH_eq, lk_cons] at h
    split at h
    · rename_i he
      injection h with h
      cases x with
      | none => cases h
      | some x => injection h with h; exact .inl ⟨j, x, lk_here _ _ _, he, h.symm⟩
    · rename_i hne
      rcases lk_emb h with ⟨i0, k0, h1, h2, h3⟩ | h1
      · refine .inl ⟨i0, k0, ?_, h2, h3⟩
        rw [lk_there (fun e => hne (by rw [e]; exact h2))]; exact h1
      · exact .inr h1
/-- A call of which its caller has more at hand. -/
theorem Call.emb {E : Env} {f : FuncId} {args : List V} {h0 h : Hp} {R : V → Hp → Prop} {ρ : Nat → Nat} (c : Call E f args h0 R) (e : Emb ρ h0 h) (hl : lowL h0.n args = true) :
    Call E f (renL ρ args) h (fun r h' => ∃ r0 h1, R r0 h1 ∧ r = r0.ren (upN ρ h0.n h.n) ∧ h' = embH ρ h0 h h1) := fun U m w vs hH hV => by
  have own0 : ∀ x, Own (fun i => m (ρ i)) h0.b x → ∃ i k, i < h0.n ∧ lk h.b (ρ i) = some (some k) ∧ m (ρ i) = some x := fun x ⟨i, k, h1, h2⟩ => ⟨i, _, (lowH_get e.low h1).1, e.blk i k h1, h2⟩
  have own1 : ∀ x, Own (fun i => m (ρ i)) h0.b x → Own m h.b x := fun x hx => by obtain ⟨i, k, _, h2, h3⟩ := own0 x hx; exact ⟨_, k, h2, h3⟩
  have hH0 : HR U (fun i => m (ρ i)) h0.n h0.b w :=
    ⟨fun i k h1 => ⟨(lowH_get e.low h1).1, (hH.live _ _ (e.blk i k h1)).2.unren (lowH_get e.low h1).2⟩,
     fun i k x h1 h2 => hH.ok _ _ x (e.blk i k h1) h2,
     fun i j k k' x h1 h2 h3 h4 => e.inj i j (lowH_get e.low h1).1 (lowH_get e.low h2).1 (hH.inj _ _ _ _ x (e.blk i k h1) (e.blk j k' h2) h3 h4), hH.ulow⟩
  have hV0 : VRs U (fun i => m (ρ i)) h0.n w args vs := ⟨by rw [← hV.len, renL_len], fun j x v h1 h2 => (hV.at_ j _ v (renL_at h1) h2).unren x rfl (lowL_get hl h1)⟩
  refine (c U (fun i => m (ρ i)) w vs hH0 hV0).mono fun en w' ⟨r0, R0, U', m', h1, e1, q, hvr, hH', st⟩ => ?_
  have hn0 := st.hn
  let g := upN ρ h0.n h.n
  let m2 : Nat → Option Nat := fun j => cond (Nat.blt j h.n) (m j) (m' (h0.n + (j - h.n)))
  have m2lt : ∀ j, j < h.n → m2 j = m j := fun j hj => by show cond _ _ _ = _; rw [blt_iff.2 hj]; rfl
  have hg : ∀ i, i < h1.n → m2 (g i) = m' i ∧ g i < h.n + (h1.n - h0.n) := fun i hi => by
    by_cases hc : i < h0.n
    · have eg : g i = ρ i := by show cond _ _ _ = _; rw [blt_iff.2 hc]; rfl
      have := e.lt i hc
      rw [eg, m2lt _ this]
      exact ⟨(st.hm i hc).symm, by omega⟩
    · have eg : g i = h.n + (i - h0.n) := by show cond _ _ _ = _; rw [blt_false (by omega)]; rfl
      rw [eg]
      refine ⟨?_, by omega⟩
      show cond _ _ _ = _
      rw [blt_false (by omega), cond_false]
      congr 1; omega
  have keepx : ∀ x, x < w.heap.size → ¬ Own (fun i => m (ρ i)) h0.b x → w'.heap[x]? = w.heap[x]? := st.keep
  have frame : ∀ id k x, lk h.b id = some (some k) → (∀ j, j < h0.n → ρ j ≠ id) → m id = some x → ¬ Own (fun i => m (ρ i)) h0.b x := fun id k x g1 g2 g3 ho => by
    obtain ⟨i, k', h2, h3, h4⟩ := own0 x ho
    exact g2 i h2 (hH.inj _ _ _ _ x h3 g1 h4 g3)
  have cases_ : ∀ id k, lk (embH ρ h0 h h1).b id = some (some k) → (∃ i0 k0, lk h1.b i0 = some (some k0) ∧ g i0 = id ∧ k = k0.ren g) ∨ (lk h.b id = some (some k) ∧ ∀ j, j < h0.n → ρ j ≠ id) := fun id k hk => by
    rcases lk_emb hk with h2 | h2
    · exact .inl h2
    · exact .inr (lk_kill h2)
  have hU0 : ∀ x, U x → ¬ Own (fun i => m (ρ i)) h0.b x := fun x hx ho => hH.notOwn hx (own1 x ho)
  have hHn : HR U' m2 (h.n + (h1.n - h0.n)) (embH ρ h0 h h1).b w' := by
    refine ⟨fun id k hk => ?_, fun id k x hk hx => ?_, fun id id' k k' x hk hk' hx hx' => ?_, hH'.ulow⟩
    · rcases cases_ id k hk with ⟨i0, k0, g1, rfl, rfl⟩ | ⟨g1, g2⟩
      · obtain ⟨g3, g4⟩ := hH'.live i0 k0 g1
        obtain ⟨g5, g6⟩ := hg i0 g3
        exact ⟨g6, by rw [g5]; exact g4.ren hg⟩
      · obtain ⟨g3, g4⟩ := hH.live id k g1
        refine ⟨by omega, ?_⟩
        rw [m2lt id g3]
        exact g4.mono st.hU (fun x hx => keepx x (hH.ulow x hx) (hU0 x hx)) st.hz (by omega) m2lt (fun x hx => keepx x (hH.ok id k x g1 hx).2 (frame id k x g1 g2 hx))
    · rcases cases_ id k hk with ⟨i0, k0, g1, rfl, rfl⟩ | ⟨g1, g2⟩
      · rw [(hg i0 (hH'.live i0 k0 g1).1).1] at hx
        exact hH'.ok i0 k0 x g1 hx
      · rw [m2lt id (hH.live id k g1).1] at hx
        obtain ⟨g3, g4⟩ := hH.ok id k x g1 hx
        refine ⟨fun hu => ?_, Nat.lt_of_lt_of_le g4 st.size⟩
        rcases st.lim x g4 hu with h5 | h5
        · exact g3 h5
        · exact frame id k x g1 g2 hx h5
    · rcases cases_ id k hk with ⟨i0, k0, g1, rfl, rfl⟩ | ⟨g1, g2⟩ <;> rcases cases_ id' k' hk' with ⟨i0', k0', g1', rfl, rfl⟩ | ⟨g1', g2'⟩
      · rw [(hg i0 (hH'.live i0 k0 g1).1).1] at hx
        rw [(hg i0' (hH'.live i0' k0' g1').1).1] at hx'
        rw [hH'.inj i0 i0' k0 k0' x g1 g1' hx hx']
      · rw [(hg i0 (hH'.live i0 k0 g1).1).1] at hx
        rw [m2lt id' (hH.live id' k' g1').1] at hx'
        exact absurd (st.own x (hH.ok id' k' x g1' hx').2 ⟨i0, k0, g1, hx⟩) (frame id' k' x g1' g2' hx')
      · rw [(hg i0' (hH'.live i0' k0' g1').1).1] at hx'
        rw [m2lt id (hH.live id k g1).1] at hx
        exact absurd (st.own x (hH.ok id k x g1 hx).2 ⟨i0', k0', g1', hx'⟩) (frame id k x g1 g2 hx)
      · rw [m2lt id (hH.live id k g1).1] at hx
        rw [m2lt id' (hH.live id' k' g1').1] at hx'
        exact hH.inj id id' k k' x g1 g1' hx hx'
  refine ⟨r0.ren g, R0, U', m2, embH ρ h0 h h1, e1, ⟨r0, h1, q, rfl, rfl⟩, hvr.ren hg, hHn, ?_⟩
  exact { hn := by show h.n ≤ h.n + _; omega, hm := m2lt, hU := st.hU, size := st.size, os := st.os, tape := st.tape, output := st.output
          keep := fun x hx ho => keepx x hx (fun h => ho (own1 x h))
          own := fun x hx ⟨id, k, hk, hm⟩ => by
            rcases cases_ id k hk with ⟨i0, k0, g1, rfl, rfl⟩ | ⟨g1, g2⟩
            · rw [(hg i0 (hH'.live i0 k0 g1).1).1] at hm
              exact own1 x (st.own x hx ⟨i0, k0, g1, hm⟩)
            · rw [m2lt id (hH.live id k g1).1] at hm
              exact ⟨id, k, g1, hm⟩
          lim := fun x hx h => by
            rcases st.lim x hx h with h2 | h2
            · exact .inl h2
            · exact .inr (own1 x h2)
          hz := st.hz }
end Go.Proofs.Ythkoinngmcpjgaa

/-
  The reckoner: tables of what is known of functions that make or write; rows that may be nil. Conditions: none.
-/
namespace Go.Proofs.Ythkoinngmcpjgaa
open Go.RowKit Oc

/-- A name's place in a list of names. -/
noncomputable def posN (l : List Nat) (i : Nat) : Nat := List.rec 0 (fun x _ ih => cond (Nat.beq x i) 0 (Nat.succ ih)) l
noncomputable def atN (l : List Nat) (k : Nat) : Nat := match getN l k with | some i => i | none => 0
theorem atN_pos {l : List Nat} {i : Nat} (h : memN i l = true) : posN l i < l.length ∧ atN l (posN l i) = i := by
  rw [memN_iff] at h
  induction l with
  | nil => cases h
  | cons x r ih =>
    have e : posN (x :: r) i = cond (Nat.beq x i) 0 (Nat.succ (posN r i)) := rfl
    rw [e]
    cases hb : Nat.beq x i
    · have hne : x ≠ i := ne_of_beq hb
      obtain ⟨h1, h2⟩ := ih (by rcases List.mem_cons.1 h with h | h; exact absurd h.symm hne; exact h)
      refine ⟨by simp only [cond_false, List.length_cons]; omega, ?_⟩
      simp only [cond_false]
      exact h2
    · have := Nat.eq_of_beq_eq_true hb
      subst this
      exact ⟨by simp, rfl⟩
mutual
/-- All names are in a list. -/
noncomputable def V.inL (l : List Nat) : V → Bool
  | .sl _ id _ _ => memN id l
  | .ptr id _ => memN id l
  | .el _ id _ _ => memN id l
  | .map id => memN id l
  | .fn _ a c => inLs l a && inLs l c
  | .ifc _ v => v.inL l
  | .agg cs => inLs l cs
  | .tup vs => inLs l vs
  | .un => true
  | .d _ => true
  | .nn _ _ => true
noncomputable def inLs (l : List Nat) : List V → Bool
  | [] => true
  | v :: r => v.inL l && inLs l r
end
mutual
theorem V.ren_back {l : List Nat} : ∀ v : V, v.inL l = true → (v.ren (posN l)).ren (atN l) = v ∧ (v.ren (posN l)).lowN l.length = true
  | .un, _ => ⟨rfl, rfl⟩
  | .d _, _ => ⟨rfl, rfl⟩
  | .nn _ _, _ => ⟨rfl, rfl⟩
  | .sl e id off n, h => by obtain ⟨h1, h2⟩ := atN_pos h; simp only [V.ren, h2, V.lowN]; exact ⟨trivial, blt_iff.2 h1⟩
  | .ptr id off, h => by obtain ⟨h1, h2⟩ := atN_pos h; simp only [V.ren, h2, V.lowN]; exact ⟨trivial, blt_iff.2 h1⟩
  | .el e id i r, h => by obtain ⟨h1, h2⟩ := atN_pos h; simp only [V.ren, h2, V.lowN]; exact ⟨trivial, blt_iff.2 h1⟩
  | .map id, h => by obtain ⟨h1, h2⟩ := atN_pos h; simp only [V.ren, h2, V.lowN]; exact ⟨trivial, blt_iff.2 h1⟩
  | .fn f a c, h => by
    simp only [V.inL, Bool.and_eq_true] at h
    obtain ⟨h1, h2⟩ := renL_back a h.1
    obtain ⟨h3, h4⟩ := renL_back c h.2
    simp only [V.ren, h1, h3, V.lowN, h2, h4]; exact ⟨trivial, rfl⟩
  | .ifc t v, h => by
    obtain ⟨h1, h2⟩ := V.ren_back v h
    simp only [V.ren, h1, V.lowN, h2]; exact ⟨trivial, trivial⟩
  | .agg cs, h => by
    obtain ⟨h1, h2⟩ := renL_back cs h
    simp only [V.ren, h1, V.lowN, h2]; exact ⟨trivial, trivial⟩
  | .tup cs, h => by
    obtain ⟨h1, h2⟩ := renL_back cs h
    simp only [V.ren, h1, V.lowN, h2]; exact ⟨trivial, trivial⟩
theorem renL_back {l : List Nat} : ∀ vs : List V, inLs l vs = true → renL (atN l) (renL (posN l) vs) = vs ∧ lowL l.length (renL (posN l) vs) = true
  | [], _ => ⟨rfl, rfl⟩
  | v :: r, h => by
    simp only [inLs, Bool.and_eq_true] at h
    obtain ⟨h1, h2⟩ := V.ren_back v h.1
    obtain ⟨h3, h4⟩ := renL_back r h.2
    simp only [renL, h1, h3, lowL, h2, h4]; exact ⟨trivial, rfl⟩
end
noncomputable def Blk.inL (l : List Nat) : Blk → Bool
  | .cells cs => inLs l cs
  | .dat _ => true
  | .rows _ _ _ => true
  | .fm _ _ _ _ _ => true
theorem Blk.ren_back {l : List Nat} {k : Blk} (h : k.inL l = true) : (k.ren (posN l)).ren (atN l) = k ∧ (k.ren (posN l)).lowN l.length = true := by
  cases k with
  | cells cs => obtain ⟨h1, h2⟩ := renL_back cs h; simp only [Blk.ren, h1, Blk.lowN, h2]; exact ⟨trivial, trivial⟩
  | dat cs => exact ⟨rfl, rfl⟩
  | rows n e f => exact ⟨rfl, rfl⟩
  | fm q g c has val => exact ⟨rfl, rfl⟩
mutual
/-- The names, as they come. -/
noncomputable def V.ids : V → List Nat → List Nat
  | .sl _ id _ _, l => cond (memN id l) l (l ++ [id])
  | .ptr id _, l => cond (memN id l) l (l ++ [id])
  | .el _ id _ _, l => cond (memN id l) l (l ++ [id])
  | .map id, l => cond (memN id l) l (l ++ [id])
  | .fn _ a c, l => idsL c (idsL a l)
  | .ifc _ v, l => v.ids l
  | .agg cs, l => idsL cs l
  | .tup vs, l => idsL vs l
  | .un, l => l
  | .d _, l => l
  | .nn _ _, l => l
noncomputable def idsL : List V → List Nat → List Nat
  | [], l => l
  | v :: r, l => idsL r (v.ids l)
end
noncomputable def Blk.ids : Blk → List Nat → List Nat
  | .cells cs, l => idsL cs l
  | .dat _, l => l
  | .rows _ _ _, l => l
  | .fm _ _ _ _ _, l => l
/-- All that may be reached. -/
noncomputable def reachN (b : Heap) (n : Nat) : Nat → List Nat → List Nat :=
  Nat.rec (motive := fun _ => Nat → List Nat → List Nat) (fun _ l => l) (fun _ ih k l => match getN l k with
    | none => l
    | some i => match lkr b i with
      | some (some blk) => ih (Nat.succ k) (blk.ids l)
      | _ => ih (Nat.succ k) l) n
/-- The blocks, under their places. -/
noncomputable def canB (b : Heap) (l : List Nat) : List Nat → Nat → Heap :=
  fun r => List.rec (motive := fun _ => Nat → Heap) (fun _ => []) (fun i _ ih k => match lkr b i with
    | some (some blk) => (k, some (blk.ren (posN l))) :: ih (Nat.succ k)
    | _ => ih (Nat.succ k)) r
noncomputable def canOk (b : Heap) (n : Nat) (l : List Nat) (r : List Nat) : Bool :=
  List.rec true (fun i r ih => match memN i r with
    | true => false
    | false => match Nat.blt i n with
      | true => match lkr b i with
        | some (some blk) => match blk.inL l with
          | true => ih
          | false => false
        | _ => ih
      | false => false) r
theorem canOk_cons {b : Heap} {n : Nat} {l : List Nat} {i : Nat} {r : List Nat} (h : canOk b n l (i :: r) = true) : i ∉ r ∧ i < n ∧ (∀ blk, lk b i = some (some blk) → blk.inL l = true) ∧ canOk b n l r = true := by
  have h' : (match memN i r with
    | true => false
    | false => match Nat.blt i n with
      | true => match lkr b i with
        | some (some blk) => match blk.inL l with
          | true => canOk b n l r
          | false => false
        | _ => canOk b n l r
      | false => false) = true := h
  split at h'
  · cases h'
  · rename_i hm
    split at h'
    · rename_i hn
      have hi : i ∉ r := fun h => by rw [memN_iff.2 h] at hm; cases hm
      rw [lkr_eq] at h'
      split at h'
      · rename_i blk hb
        split at h'
        · rename_i hin
          exact ⟨hi, blt_iff.1 hn, fun blk' h2 => by rw [hb] at h2; injection h2 with h2; injection h2 with h2; subst h2; exact hin, h'⟩
        · cases h'
      · rename_i hne
        exact ⟨hi, blt_iff.1 hn, fun blk' h2 => absurd h2 (hne blk'), h'⟩
    · cases h'
theorem canB_get {b : Heap} {l : List Nat} : ∀ (r : List Nat) (k i : Nat) (blk : Blk), lk (canB b l r k) i = some (some blk) → ∃ j x, i = k + j ∧ r[j]? = some x ∧ ∃ b0, lk b x = some (some b0) ∧ blk = b0.ren (posN l)
  | [], k, i, blk, h => by cases (h : (none : Option (Option Blk)) = some (some blk))
  | y :: r, k, i, blk, h => by
    have e : canB b l (y :: r) k = (match lkr b y with | some (some b0) => (k, some (b0.ren (posN l))) :: canB b l r (Nat.succ k) | _ => canB b l r (Nat.succ k)) := rfl
    rw [e, lkr_eq] at h
    have tail : lk (canB b l r (Nat.succ k)) i = some (some blk) → ∃ j x, i = k + j ∧ (y :: r)[j]? = some x ∧ ∃ b0, lk b x = some (some b0) ∧ blk = b0.ren (posN l) := fun h => by
      obtain ⟨j, x, h1, h2, h3⟩ := canB_get r _ i blk h
      exact ⟨j + 1, x, by omega, by simpa using h2, h3⟩
    split at h
    · rename_i b0 hb
      rw [lk_cons] at h
      split at h
      · rename_i hk
        injection h with h; injection h with h
        exact ⟨0, y, by omega, rfl, b0, hb, h.symm⟩
      · exact tail h
    · exact tail h
theorem lowH_all {n : Nat} : ∀ {b : Heap}, (∀ p ∈ b, ∀ k, p.2 = some k → p.1 < n ∧ k.lowN n = true) → lowH n b = true
  | [], _ => rfl
  | (i, some k) :: r, h => by
    obtain ⟨h1, h2⟩ := h _ List.mem_cons_self k rfl
    simp only [lowH, Bool.and_eq_true]
    exact ⟨⟨blt_iff.2 h1, h2⟩, lowH_all fun p hp => h p (List.mem_cons_of_mem _ hp)⟩
  | (i, none) :: r, h => by
    simp only [lowH]
    exact lowH_all fun p hp => h p (List.mem_cons_of_mem _ hp)
theorem canB_mem {b : Heap} {l : List Nat} : ∀ (r : List Nat) (k : Nat), ∀ p ∈ canB b l r k, ∃ j x, p.1 = k + j ∧ r[j]? = some x ∧ ∃ b0, lk b x = some (some b0) ∧ p.2 = some (b0.ren (posN l))
  | [], k, p, h => by cases (h : p ∈ ([] : Heap))
  | y :: r, k, p, h => by
    have e : canB b l (y :: r) k = (match lkr b y with | some (some b0) => (k, some (b0.ren (posN l))) :: canB b l r (Nat.succ k) | _ => canB b l r (Nat.succ k)) := rfl
    rw [e, lkr_eq] at h
    have tail : p ∈ canB b l r (Nat.succ k) → ∃ j x, p.1 = k + j ∧ (y :: r)[j]? = some x ∧ ∃ b0, lk b x = some (some b0) ∧ p.2 = some (b0.ren (posN l)) := fun h => by
      obtain ⟨j, x, h1, h2, h3⟩ := canB_mem r _ p h
      exact ⟨j + 1, x, by omega, by simpa using h2, h3⟩
    split at h
    · rename_i b0 hb
      rcases List.mem_cons.1 h with rfl | h
      · exact ⟨0, y, rfl, rfl, b0, hb, rfl⟩
      · exact tail h
    · exact tail h
theorem canOk_all {b : Heap} {n : Nat} {l : List Nat} : ∀ {r : List Nat}, canOk b n l r = true → r.Nodup ∧ (∀ i ∈ r, i < n) ∧ ∀ i ∈ r, ∀ blk, lk b i = some (some blk) → blk.inL l = true
  | [], _ => ⟨List.nodup_nil, fun i h => by simp at h, fun i h => by simp at h⟩
  | i :: r, h => by
    obtain ⟨h1, h2, h3, h4⟩ := canOk_cons h
    obtain ⟨h5, h6, h7⟩ := canOk_all h4
    exact ⟨List.nodup_cons.2 ⟨h1, h5⟩, fun j hj => by rcases List.mem_cons.1 hj with rfl | hj; exact h2; exact h6 j hj, fun j hj => by rcases List.mem_cons.1 hj with rfl | hj; exact h3; exact h7 j hj⟩
theorem atN_get {l : List Nat} {j x : Nat} (h : l[j]? = some x) : atN l j = x := by unfold atN; rw [getN_eq, h]
theorem emb_can {h : Hp} {l : List Nat} (hk : canOk h.b h.n l l = true) : Emb (atN l) ⟨l.length, canB h.b l l 0⟩ h := by
  obtain ⟨h1, h2, h3⟩ := canOk_all hk
  have hat : ∀ i, i < l.length → l[i]? = some (atN l i) := fun i hi => by rw [List.getElem?_eq_getElem hi]; exact congrArg some (atN_get (List.getElem?_eq_getElem hi)).symm
  have hget : ∀ j x b0, l[j]? = some x → lk h.b x = some (some b0) → (b0.ren (posN l)).ren (atN l) = b0 ∧ (b0.ren (posN l)).lowN l.length = true := fun j x b0 g1 g2 => Blk.ren_back (h3 x (List.mem_of_getElem? g1) b0 g2)
  refine ⟨fun i hi => h2 _ (List.mem_of_getElem? (hat i hi)), fun i j hi hj e => ?_, fun i k hk => ?_, lowH_all fun p hp k hk => ?_⟩
  · have e1 := hat i hi
    have e2 := hat j hj
    rw [← e] at e2
    have q1 := (List.getElem?_eq_some_iff.1 e1).2
    have q2 := (List.getElem?_eq_some_iff.1 e2).2
    exact (List.getElem_inj h1).1 (q1.trans q2.symm)
  · obtain ⟨j, x, g1, g2, b0, g3, rfl⟩ := canB_get l 0 i k hk
    have : i = j := by omega
    subst this
    rw [atN_get g2, (hget i x b0 g2 g3).1]; exact g3
  · obtain ⟨j, x, g1, g2, b0, g3, g4⟩ := canB_mem l 0 p hp
    rw [hk] at g4; injection g4 with g4; subst g4
    have := (List.getElem?_eq_some_iff.1 g2).1
    exact ⟨by show p.1 < l.length; omega, (hget j x b0 g2 g3).2⟩
/-- What is known of some functions that make or write, under names of their own. -/
abbrev GT := List (Nat × (List V → Hp → Option (List Ob × V × Hp)))
def GtOk (E : Env) (gt : GT) : Prop := ∀ f g, lk gt f = some g → Enters E f ∧ ∀ args h l r h', g args h = some (l, r, h') → obsL l → Call E f args h (fun r' h'' => r' = r ∧ h'' = h')
theorem GtOk.nil (E : Env) : GtOk E [] := fun f I h => by simp [lk] at h
theorem GtOk.cons {E : Env} {f : Nat} {g : List V → Hp → Option (List Ob × V × Hp)} {r : GT} (he : Enters E f) (h : ∀ args h l r h', g args h = some (l, r, h') → obsL l → Call E f args h (fun r' h'' => r' = r ∧ h'' = h')) (k : GtOk E r) : GtOk E ((f, g) :: r) := fun g' J hg => by
  rw [lk_cons] at hg
  split at hg
  · rename_i e; subst e; injection hg with hg; subst hg; exact ⟨he, h⟩
  · exact k g' J hg
/-- A call by the table: what it may reach, under names of its own. -/
noncomputable def callG (G : List V → Hp → Option (List Ob × V × Hp)) (args : List V) (h : Hp) : Option (List Ob × V × Hp) :=
  match reachN h.b 64 0 (idsL args []) with
  | l => match inLs l args && canOk h.b h.n l l with
    | true => match G (renL (posN l) args) ⟨l.length, canB h.b l l 0⟩ with
      | some (obl, r, h1) => some (obl, r.ren (upN (atN l) l.length h.n), embH (atN l) ⟨l.length, canB h.b l l 0⟩ h h1)
      | none => none
    | false => none
noncomputable def csGT (pt : List (Nat × (List V → Option (List Ob × V)))) (gt : GT) : Cs := ⟨fun f args => match lkr pt f with | some g => g args | none => none, fun f args h => match lkr gt f with | some G => callG G args h | none => none⟩
theorem csGT_ok {E : Env} {pt : List (Nat × (List V → Option (List Ob × V)))} {gt : GT} (h : PtOk E pt) (hg : GtOk E gt) : CsOk E (csGT pt gt) := by
  refine ⟨fun f args l r h1 hl => ?_, fun f args h l r h' h1 hl => ?_⟩
  · have h1' : (match lkr pt f with | some g => g args | none => none) = some (l, r) := h1
    rw [lkr_eq] at h1'
    split at h1'
    · rename_i g hg
      exact ⟨(h f g hg).1, (h f g hg).2 _ _ _ h1' hl⟩
    · cases h1'
  · have h1' : (match lkr gt f with | some G => callG G args h | none => none) = some (l, r, h') := h1
    rw [lkr_eq] at h1'
    split at h1'
    · rename_i G hG
      obtain ⟨g1, g2⟩ := hg f G hG
      refine ⟨g1, ?_⟩
      unfold callG at h1'
      generalize reachN h.b 64 0 (idsL args []) = q at h1'
      dsimp only at h1'
      split at h1'
      · rename_i hok
        obtain ⟨c1, c2⟩ := and_split hok
        split at h1'
        · rename_i obl r0 hn hGe
          injection h1' with h1'; simp only [Prod.mk.injEq] at h1'; obtain ⟨rfl, rfl, rfl⟩ := h1'
          obtain ⟨e1, e2⟩ := renL_back args c1
          have c := Call.emb (g2 _ _ _ _ _ hGe hl) (emb_can c2) e2
          rw [e1] at c
          exact c.mono fun r h2 ⟨r1, h3, ⟨q1, q2⟩, q3, q4⟩ => by subst q1; subst q2; exact ⟨q3, q4⟩
        · cases h1'
      · cases h1'
    · cases h1'
/-- A function's end, of which less is told. -/
structure CEnd (v : V) (h : Hp) (rv : V) (h' : Hp) : Prop where
  v : VLe v rv
  n : h.n ≤ h'.n
  b : BSub h.b h'.b
noncomputable def QCF (tab : List (Nat × Ty)) (rs : List ResultVar) (r : V) (h' : Hp) : Post := fun e s h =>
  match e with
  | .normal => (match resC tab s h.b rs with | some v => CEnd v h r h' | none => Stk 4001)
  | .ret => (match resC tab s h.b rs with | some v => CEnd v h r h' | none => Stk 4001)
  | _ => Stk 4002
theorem QCF.ok {E : Env} {rs : List ResultVar} {r : V} {h' : Hp} {e : Exit} {s : Slots} {h : Hp} (q : QCF E.tab rs r h' e s h) : QC E rs r h' e s h := by
  have key : (match resC E.tab s h.b rs with | some v => CEnd v h r h' | none => Stk 4001) → ∃ v, resC E.tab s h.b rs = some v ∧ VLe v r ∧ HLe h h' := fun q => by
    split at q
    · rename_i v hv
      exact ⟨v, hv, q.v, q.n, q.b⟩
    · cases q
  cases e with
  | normal => exact ⟨.inl rfl, key q⟩
  | ret => exact ⟨.inr rfl, key q⟩
  | _ => cases q
theorem QCF.noPanic {tab : List (Nat × Ty)} {rs : List ResultVar} {r : V} {h' : Hp} : NoPanic (QCF tab rs r h') := fun c s h q => by
  cases (q : Stk 4002)
/-- A function that makes or writes, by its code. -/
theorem Call.of_TS {E : Env} {f : FuncId} {I : FnI} {args : List V} {r : V} {h h' : Hp} (hI : FnOk E f I) (hle : Nat.ble args.length I.nt = true)
    (t : rngL args → TS E I.nt h.n (sub I.code []) (argS 0 args) h (QCF E.tab I.res r h')) : Call E f args h (fun r' h'' => r' = r ∧ h'' = h') := Call.range fun hr => by
  obtain ⟨fn, h1, h2, h3, h4⟩ := hI.fn
  exact Call.of_T h1 h2 h3 hle h4 (T.mono (t hr).t fun e s h q => q.ok)
theorem Call.of_vc {E : Env} {c : Cs} {eqs : List (Nat × List Kd)} {f : FuncId} {I : FnI} {args : List V} {r : V} {h h' : Hp} (hI : FnOk E f I) (he : EqT E eqs) (hc : CsOk E c) (hle : Nat.ble args.length I.nt = true)
    (hs : (runC (fxOf E.tab eqs I.F) c I.F h.n I.nt I.code I.F.kn (argS 0 args) h).Sames) (t : rngL args → VC ((runC (fxOf E.tab eqs I.F) c I.F h.n I.nt I.code I.F.kn (argS 0 args) h).vc h (QCF E.tab I.res r h'))) : Call E f args h (fun r' h'' => r' = r ∧ h'' = h') := Call.range fun hr => by
  obtain ⟨fn, h1, h2, h3, h4⟩ := hI.fn
  refine Call.of_T h1 h2 h3 hle h4 (runC_ok (X := fxOf E.tab eqs I.F) (c := c) (F := I.F) rfl he hc I.code hI.ord I.F.kn _ _ QC.noPanic ?_)
  refine post_mono (fun e s h q => ?_) _ (vc_ok _ hs.sm (t hr).p)
  exact ⟨s, h, .refl _, .refl _, q.ok⟩
/-- Less is known of what a call comes to. -/
theorem Call.weak {E : Env} {f : FuncId} {args : List V} {h h1 h' : Hp} {r1 r : V} (c : Call E f args h (fun r' h'' => r' = r1 ∧ h'' = h1)) (hv : VLe r1 r) (hh : HLe h1 h') : Call E f args h (fun r' h'' => r' = r ∧ h'' = h') := fun U m w vs hH hV =>
  (c U m w vs hH hV).mono fun e w' ⟨r2, R0, U', m', h2, e1, ⟨q1, q2⟩, hvr, hH', st⟩ => by
    subst q1; subst q2
    obtain ⟨g1, g2⟩ := hH'.leH hh
    exact ⟨r, R0, U', m', h', e1, ⟨rfl, rfl⟩, (hvr.le hv).mono (fun _ h => h) (fun _ _ => rfl) (fun _ _ h => h) hh.1 (fun _ _ => rfl), g1, st.trans (g2.low st.hn)⟩
/-- A nil slice that comes of a call, as a row without a block. -/
theorem Call.virtR {E : Env} {f : FuncId} {args : List V} {h h1 : Hp} (c : Call E f args h (fun r' h'' => r' = .d .nsl ∧ h'' = h1)) (e : Nat) (g : Nat → List D) : Call E f args h (fun r' h'' => r' = .sl e h1.n 0 0 ∧ h'' = ⟨h1.n + 1, (h1.n, some (.rows 0 e g)) :: h1.b⟩) := fun U m w vs hH hV =>
  (c U m w vs hH hV).mono fun en w' ⟨r2, R0, U', m', h2, e1, ⟨q1, q2⟩, hvr, hH', st⟩ => by
    subst q1; subst q2
    have r : SR 1 h2.n U' m' [(0, .d .nsl)] h2 { tmps := #[R0], defers := [] } w' := ⟨fun t v hv => by
      rw [lk_cons] at hv
      split at hv
      · rename_i e; subst e; injection hv with hv; subst hv; exact ⟨R0, rfl, hvr⟩
      · simp [lk] at hv, rfl, rfl, hH', Nat.le_refl _⟩
    obtain ⟨r1, st1⟩ := r.virt (e := e) (tt := 0) rfl
    obtain ⟨x, g1, g2⟩ := r1.slots 0 _ rfl
    have : R0 = x := by simpa using g1
    subst this
    have r2 := r1.reblk (id := h2.n) (blk := .dat []) (blk' := .rows 0 e g) (lk_here _ _ _) (by rw [ext_here]; exact .rows0)
    have e2 : HEq ((h2.n, some (Blk.rows 0 e g)) :: (h2.n, some (Blk.dat [])) :: h2.b) ((h2.n, some (.rows 0 e g)) :: h2.b) := fun i => by
      simp only [lk_cons]; split <;> rfl
    exact ⟨_, R0, _, _, ⟨h2.n + 1, (h2.n, some (.rows 0 e g)) :: h2.b⟩, e1, ⟨rfl, rfl⟩, g2, (r2.1.heq e2).heap, (st.trans (st1.low st.hn)).trans ((r2.2.heq e2).low st.hn)⟩
/-- A row that is handed is nil, or it surely is not. -/
theorem Call.nilCase {E : Env} {f : FuncId} {n e : Nat} {g : Nat → List D} {as : List V} {h : Hp} {Q : V → Hp → Prop} (c1 : n = 0 → Call E f (.nn true (.rows 0 e g) :: as) h Q) (c2 : Call E f (.nn false (.rows n e g) :: as) h Q) (he : 0 < e) : Call E f (.d (.rows n e g) :: as) h Q := fun U m w vs hH hV => by
  have h0 : ∃ v, vs[0]? = some v := by
    have := hV.len
    rw [List.length_cons] at this
    exact ⟨vs[0], by simp⟩
  obtain ⟨v, hv⟩ := h0
  have hr := hV.at_ 0 _ v rfl hv
  have upd : ∀ x, VR U m h.n w x v → VRs U m h.n w (x :: as) vs := fun x hx => ⟨hV.len, fun j y u h1 h2 => by
    cases j with
    | zero => simp at h1; subst h1; rw [hv] at h2; injection h2 with h2; subst h2; exact hx
    | succ j => exact hV.at_ (j + 1) y u (by simpa using h1) h2⟩
  cases hr with
  | d hr =>
    have hr0 := hr
    cases hr with
    | rows hl hr =>
      cases hr with
      | @lst _ _ A cap fc hk hcap ha hv2 =>
        cases A with
        | some a => exact c2 U m w vs hH (upd _ (.nn hr0 ⟨_, _, _, rfl, rfl⟩))
        | none =>
          have hn : n = 0 := by
            refine flat_ne hl he ?_
            cases hf : flatN n g with
            | nil => rfl
            | cons x r =>
              obtain ⟨ad, h1, _⟩ := ha 0 (by rw [hf]; simp)
              cases h1
          subst hn
          exact c1 rfl U m w vs hH (upd _ (.nn hr0 ⟨_, _, _, rfl, rfl⟩))
end Go.Proofs.Ythkoinngmcpjgaa

/-
  The reckoner: small things more. Conditions: none.
-/
namespace Go.Proofs.Ythkoinngmcpjgaa
open Go.RowKit Oc
/-- Less is known of a frame. -/
theorem TS.weak {E : Env} {k B : Nat} {c : Code} {s s' : Slots} {h : Hp} {Q : Post} (t : TS E k B c s' h Q) (l : SLe s s') : TS E k B c s h Q := ⟨T.leS t.t l (.refl _)⟩
theorem SLe.nnD {s r : Slots} {t : Nat} {b : Bool} {x : D} (h : lk s t = some (.nn b x)) (k : SLe s r) : SLe s ((t, .d x) :: r) := SLe.cons h (fun _ _ _ _ _ q => by cases q with | nn q _ => exact .d q) k
/-- A number's value, in short: proofs' texts are full of them. -/
@[reducible] def vI (x : Int) : V := V.d (D.int IntKind.i64 x)
end Go.Proofs.Ythkoinngmcpjgaa
