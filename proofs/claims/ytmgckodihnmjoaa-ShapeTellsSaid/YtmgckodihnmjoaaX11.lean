/-
  The reckoner: code. Conditions: none.
-/
import Derived.Test.YtmgckodihnmjoaaX10
set_option linter.unusedVariables false
set_option linter.unusedSimpArgs false
set_option maxRecDepth 20000
namespace Go.Proofs.Ytmgckodihnmjoaa
open Go.RowKit

/-- Orders of a region, names that are kept for variables, and what is more than a call of a pure function. -/
structure Od where
  t : OT
  rk : List (Nat × Nat)
  imp : List Nat
/-- What the reckoner is told of a function: what is needed behind a region; the orders of a region that draws its order; rows that stay at hand, cell by cell; numbers that wrap round; how often a loop's rounds are gone through; whether all truth values are plain, or which ones. -/
structure Fi where
  live : List (Nat × List Nat)
  ord : List (Nat × Od)
  hd : List Nat
  wr : List Nat
  unr : Nat
  lit : Bool
  kn : List Nat
/-- What code comes to. The blocks: if they are others than ahead. -/
inductive Oc where
  | ok (e : Exit) (s : Slots) (h : Option Hp) (kn : List Nat)
  | ob (l : List Ob) (x : Oc)
  | br (b : Bool) (x y : Oc)
  | bad (i : Nat)
/-- Stuck. -/
inductive Stk : Nat → Prop
namespace Oc
def post (h : Hp) (Q : Post) : Oc → Prop
  | .ok e s hn _ => Q e s (hn.getD h)
  | .ob l x => obsL l ∧ x.post h Q
  | .br b x y => (b = true → x.post h Q) ∧ (b = false → y.post h Q)
  | .bad _ => False
/-- The same, as it is shown. -/
noncomputable def vc (h : Hp) (Q : Post) (o : Oc) : Prop :=
  Oc.rec (fun e s hn _ => match hn with | none => Q e s h | some h' => Q e s h') (fun l _ ih => vcL l ih) (fun b _ _ ih1 ih2 => cond b ih1 ih2) (fun i => Stk i) o
/-- What must be the same: left (false), right (true). -/
def sm (q : Bool) : Oc → List Sm
  | .ok _ _ _ _ => []
  | .ob l x => smL q l ++ x.sm q
  | .br _ x y => x.sm q ++ y.sm q
  | .bad _ => []
theorem sm_len : ∀ o : Oc, (o.sm false).length = (o.sm true).length
  | .ok .. => by simp [sm]
  | .ob l x => by simp only [sm, List.length_append, smL_len l, sm_len x]
  | .br _ x y => by simp only [sm, List.length_append, sm_len x, sm_len y]
  | .bad _ => by simp [sm]
theorem vc_ok {h : Hp} {Q : Post} : ∀ o : Oc, o.sm false = o.sm true → o.vc h Q → o.post h Q
  | .ok e s hn kn, _, p => by cases hn <;> exact p
  | .ob l x, hs, p => by
    simp only [sm] at hs
    obtain ⟨hs1, hs2⟩ := List.append_inj hs (smL_len l)
    obtain ⟨h1, h2⟩ := vcL_ok l _ hs1 p
    exact ⟨h1, vc_ok x hs2 h2⟩
  | .br b x y, hs, p => by
    simp only [sm] at hs
    obtain ⟨hs1, hs2⟩ := List.append_inj hs (sm_len x)
    have p' : cond b (x.vc h Q) (y.vc h Q) := p
    exact ⟨fun e => by subst e; exact vc_ok x hs1 p', fun e => by subst e; exact vc_ok y hs2 p'⟩
  | .bad i, _, p => nomatch (p : Stk i)
mutual
/-- Nothing that must be the same. -/
def nosO : Ob → Bool
  | .b _ => true
  | .p _ => true
  | .br _ x y => nosL x && nosL y
  | .same _ _ _ _ => false
def nosL : List Ob → Bool
  | [] => true
  | o :: r => nosO o && nosL r
end
mutual
theorem nosO_ok {q : Bool} : ∀ o : Ob, nosO o = true → o.sm q = []
  | .b _, _ => by simp [Ob.sm]
  | .p _, _ => by simp [Ob.sm]
  | .br _ x y, h => by
    simp only [nosO, Bool.and_eq_true] at h
    simp only [Ob.sm, nosL_ok x h.1, nosL_ok y h.2, List.append_nil]
  | .same .., h => by simp [nosO] at h
theorem nosL_ok {q : Bool} : ∀ l : List Ob, nosL l = true → smL q l = []
  | [], _ => by simp [smL]
  | o :: r, h => by
    simp only [nosL, Bool.and_eq_true] at h
    simp only [smL, nosO_ok o h.1, nosL_ok r h.2, List.append_nil]
end
noncomputable def noS (o : Oc) : Bool := Oc.rec (fun _ _ _ _ => true) (fun l _ ih => match nosL l with | true => ih | false => false) (fun _ _ _ ih1 ih2 => match ih1 with | true => ih2 | false => false) (fun _ => true) o
theorem noS_ok {q : Bool} : ∀ o : Oc, o.noS = true → o.sm q = []
  | .ok .., _ => by simp [sm]
  | .ob l x, h => by
    have h' : (match nosL l with | true => x.noS | false => false) = true := h
    split at h'
    · rename_i hl
      simp only [sm, nosL_ok l hl, noS_ok x h', List.append_nil]
    · cases h'
  | .br b x y, h => by
    have h' : (match x.noS with | true => y.noS | false => false) = true := h
    split at h'
    · rename_i hx
      simp only [sm, noS_ok x hx, noS_ok y h', List.append_nil]
    · cases h'
  | .bad _, _ => by simp [sm]
/-- What must be the same is. -/
def Sames (o : Oc) : Prop := o.noS = true ∨ o.sm false = o.sm true
theorem Sames.sm {o : Oc} (h : o.Sames) : o.sm false = o.sm true := by
  rcases h with h | h
  · rw [noS_ok o h, noS_ok o h]
  · exact h
theorem post_mono {h : Hp} {Q Q' : Post} (hq : ∀ e s h, Q e s h → Q' e s h) : ∀ o : Oc, o.post h Q → o.post h Q'
  | .ok e s hn kn, p => hq _ _ _ p
  | .ob l x, p => ⟨p.1, post_mono hq x p.2⟩
  | .br b x y, p => ⟨fun e => post_mono hq x (p.1 e), fun e => post_mono hq y (p.2 e)⟩
  | .bad i, p => p
/-- Told of the blocks ahead. -/
noncomputable def reb (hn : Option Hp) (o : Oc) : Oc :=
  match hn with
  | none => o
  | some h => Oc.rec (fun e s h' kn => .ok e s (orH (some h) h') kn) (fun l _ ih => .ob l ih) (fun b _ _ ih1 ih2 => .br b ih1 ih2) (fun i => .bad i) o
theorem reb_post {h : Hp} {hn : Option Hp} {Q : Post} : ∀ o : Oc, (o.reb hn).post h Q → o.post (hn.getD h) Q := by
  cases hn with
  | none => exact fun o p => p
  | some h1 =>
    have key : ∀ o : Oc, (o.reb (some h1)).post h Q → o.post h1 Q := by
      intro o
      induction o with
      | ok e s hn kn =>
        intro p
        have p' : Q e s ((orH (some h1) hn).getD h) := p
        rw [orH_getD] at p'
        exact p'
      | ob l x ih => exact fun p => ⟨p.1, ih p.2⟩
      | br b x y ih1 ih2 => exact fun p => ⟨fun e => ih1 (p.1 e), fun e => ih2 (p.2 e)⟩
      | bad i => exact fun p => p
    exact key
/-- One piece behind another. -/
noncomputable def bind (h : Hp) (f : List Nat → Slots → Hp → Oc) (o : Oc) : Oc :=
  Oc.rec (fun e s hn kn => match e with
    | .normal => match hn with
      | none => frK kn fun kn => frS s fun s => f kn s h
      | some h' => frK kn fun kn => frS s fun s => frH h' fun h' => (f kn s h').reb (some h')
    | e => .ok e s hn kn) (fun l _ ih => .ob l ih) (fun b _ _ ih1 ih2 => .br b ih1 ih2) (fun i => .bad i) o
theorem bind_post {h : Hp} {f : List Nat → Slots → Hp → Oc} {Q : Post} {N : Slots → Hp → Prop} (hf : ∀ kn s h, (f kn s h).post h Q → N s h) : ∀ o : Oc, (o.bind h f).post h Q → o.post h (thenP N Q)
  | .ok e s hn kn, p => by
    cases e with
    | normal =>
      cases hn with
      | none =>
        have p' : (frK kn fun kn => frS s fun s => f kn s h).post h Q := p
        rw [frK_eq, frS_eq] at p'
        exact hf kn s h p'
      | some h' =>
        have p' : (frK kn fun kn => frS s fun s => frH h' fun h' => (f kn s h').reb (some h')).post h Q := p
        rw [frK_eq, frS_eq, frH_eq] at p'
        exact hf kn s h' (reb_post (hn := some h') _ p')
    | _ => exact p
  | .ob l x, p => ⟨p.1, bind_post hf x p.2⟩
  | .br b x y, p => ⟨fun e => bind_post hf x (p.1 e), fun e => bind_post hf y (p.2 e)⟩
  | .bad i, p => p
/-- A block's exits. -/
noncomputable def blk (id : Nat) (o : Oc) : Oc :=
  Oc.rec (fun e s hn kn => match e with
    | .exit id' => match Nat.beq id' id with
      | true => .ok .normal s hn kn
      | false => .ok (.exit id') s hn kn
    | e => .ok e s hn kn) (fun l _ ih => .ob l ih) (fun b _ _ ih1 ih2 => .br b ih1 ih2) (fun i => .bad i) o
theorem blk_post {h : Hp} {id : Nat} {Q : Post} : ∀ o : Oc, (o.blk id).post h Q → o.post h (inBlockP id Q)
  | .ok e s hn kn, p => by
    cases e with
    | exit id' =>
      have p' : (match Nat.beq id' id with | true => Oc.ok .normal s hn kn | false => Oc.ok (.exit id') s hn kn).post h Q := p
      show inBlockP id Q (.exit id') s (hn.getD h)
      simp only [inBlockP]
      cases hb : Nat.beq id' id
      · rw [hb] at p'; rw [if_neg (ne_of_beq hb)]; exact p'
      · rw [hb] at p'; rw [if_pos (Nat.eq_of_beq_eq_true hb)]; exact p'
    | _ => exact p
  | .ob l x, p => ⟨p.1, blk_post x p.2⟩
  | .br b x y, p => ⟨fun e => blk_post x (p.1 e), fun e => blk_post y (p.2 e)⟩
  | .bad i, p => p
/-- One way alone, that goes on. -/
noncomputable def one (o : Oc) : Option (List Ob × Slots × Option Hp) :=
  Oc.rec (fun e s hn _ => match e with | .normal => some ([], s, hn) | _ => none) (fun l _ ih => match ih with | some (l', s, hn) => some (appO l l', s, hn) | none => none) (fun _ _ _ _ _ => none) (fun _ => none) o
theorem one_post {h : Hp} {Q : Post} : ∀ (o : Oc) {l : List Ob} {s : Slots} {hn : Option Hp}, o.one = some (l, s, hn) → obsL l → Q .normal s (hn.getD h) → o.post h Q
  | .ok e s' hn' kn, l, s, hn, h1, h2, h3 => by
    cases e with
    | normal =>
      have h1' : some (([] : List Ob), s', hn') = some (l, s, hn) := h1
      injection h1' with h1'; simp only [Prod.mk.injEq] at h1'; obtain ⟨_, rfl, rfl⟩ := h1'
      exact h3
    | _ => cases h1
  | .ob l0 x, l, s, hn, h1, h2, h3 => by
    have h1' : (match x.one with | some (l', s, hn) => some (appO l0 l', s, hn) | none => none) = some (l, s, hn) := h1
    split at h1'
    · rename_i l' s' hn' hx
      injection h1' with h1'; simp only [Prod.mk.injEq] at h1'; obtain ⟨rfl, rfl, rfl⟩ := h1'
      rw [appO_eq] at h2
      obtain ⟨h4, h5⟩ := obsL_app h2
      exact ⟨h4, one_post x hx h5 h3⟩
    · cases h1'
  | .br b x y, l, s, hn, h1, h2, h3 => by cases h1
  | .bad i, l, s, hn, h1, h2, h3 => by cases h1
noncomputable def keys (s : Slots) : List Nat := List.rec [] (fun p _ ih => p.1 :: ih) s
/-- What isn't assigned, and is data, stays: in all ways. -/
def kp (ms : List Nat) (s : Slots) : Oc → Prop
  | .ok _ s1 _ _ => Kp ms s s1
  | .ob _ x => x.kp ms s
  | .br _ x y => x.kp ms s ∧ y.kp ms s
  | .bad _ => True
theorem kp_mono {ms ms' : List Nat} {s : Slots} (k : ∀ t, t ∈ ms → t ∈ ms') : ∀ o : Oc, o.kp ms s → o.kp ms' s
  | .ok .., p => Kp.mono p k
  | .ob _ x, p => kp_mono k x p
  | .br _ x y, p => ⟨kp_mono k x p.1, kp_mono k y p.2⟩
  | .bad _, _ => trivial
theorem kp_from {ms : List Nat} {s s0 : Slots} (k : Kp ms s s0) : ∀ o : Oc, o.kp ms s0 → o.kp ms s
  | .ok .., p => k.trans p
  | .ob _ x, p => kp_from k x p
  | .br _ x y, p => ⟨kp_from k x p.1, kp_from k y p.2⟩
  | .bad _, _ => trivial
theorem kp_reb {ms : List Nat} {s : Slots} {hn : Option Hp} : ∀ o : Oc, o.kp ms s → (o.reb hn).kp ms s := by
  cases hn with
  | none => exact fun o p => p
  | some h1 =>
    intro o
    induction o with
    | ok e s hn kn => exact fun p => p
    | ob l x ih => exact fun p => ih p
    | br b x y ih1 ih2 => exact fun p => ⟨ih1 p.1, ih2 p.2⟩
    | bad i => exact fun p => p
theorem kp_bind {ms : List Nat} {s : Slots} {h : Hp} {f : List Nat → Slots → Hp → Oc} (hf : ∀ kn s h, (f kn s h).kp ms s) : ∀ o : Oc, o.kp ms s → (o.bind h f).kp ms s
  | .ok e s1 hn kn, p => by
    cases e with
    | normal =>
      cases hn with
      | none =>
        show (frK kn fun kn => frS s1 fun s => f kn s h).kp ms s
        rw [frK_eq, frS_eq]
        exact kp_from p _ (hf kn s1 h)
      | some h' =>
        show (frK kn fun kn => frS s1 fun s => frH h' fun h' => (f kn s h').reb (some h')).kp ms s
        rw [frK_eq, frS_eq, frH_eq]
        exact kp_from p _ (kp_reb (hn := some h') _ (hf kn s1 h'))
    | _ => exact p
  | .ob l x, p => kp_bind hf x p
  | .br b x y, p => ⟨kp_bind hf x p.1, kp_bind hf y p.2⟩
  | .bad i, _ => trivial
theorem kp_blk {ms : List Nat} {s : Slots} {id : Nat} : ∀ o : Oc, o.kp ms s → (o.blk id).kp ms s
  | .ok e s1 hn kn, p => by
    cases e with
    | exit id' =>
      show (match Nat.beq id' id with | true => Oc.ok .normal s1 hn kn | false => Oc.ok (.exit id') s1 hn kn).kp ms s
      cases Nat.beq id' id <;> exact p
    | _ => exact p
  | .ob l x, p => kp_blk x p
  | .br b x y, p => ⟨kp_blk x p.1, kp_blk y p.2⟩
  | .bad i, _ => trivial
theorem one_kp {ms : List Nat} {s : Slots} : ∀ (o : Oc) {l : List Ob} {s1 : Slots} {hn : Option Hp}, o.one = some (l, s1, hn) → o.kp ms s → Kp ms s s1
  | .ok e s' hn' kn, l, s1, hn, h1, p => by
    cases e with
    | normal =>
      have h1' : some (([] : List Ob), s', hn') = some (l, s1, hn) := h1
      injection h1' with h1'; simp only [Prod.mk.injEq] at h1'; obtain ⟨_, rfl, rfl⟩ := h1'
      exact p
    | _ => cases h1
  | .ob l0 x, l, s1, hn, h1, p => by
    have h1' : (match x.one with | some (l', s, hn) => some (appO l0 l', s, hn) | none => none) = some (l, s1, hn) := h1
    split at h1'
    · rename_i l' s' hn' hx
      injection h1' with h1'; simp only [Prod.mk.injEq] at h1'; obtain ⟨rfl, rfl, rfl⟩ := h1'
      exact one_kp x hx p
    · cases h1'
  | .br b x y, l, s1, hn, h1, p => by cases h1
  | .bad i, l, s1, hn, h1, p => by cases h1
/-- Two ways in one. -/
noncomputable def mrg (b : Bool) (ms kn : List Nat) (s : Slots) (h : Hp) (o1 o2 : Oc) : Oc :=
  match o1.one with
  | some (l1, s1, h1) => match o2.one with
    | some (l2, s2, h2) => match h1, h2 with
      | none, none => .ob (brO b l1 l2) (.ok .normal (selK b ms s s1 s2 (keys s1)) none kn)
      | _, _ => .ob (brO b l1 l2) (.ok .normal (selK b ms s s1 s2 (keys s1)) (some (selH b (h1.getD h) (h2.getD h) h.b)) kn)
    | none => .br b o1 o2
  | none => .br b o1 o2
theorem kp_mrg {b : Bool} {ms kn : List Nat} {s : Slots} {h : Hp} {o1 o2 : Oc} (k1 : o1.kp ms s) (k2 : o2.kp ms s) : (mrg b ms kn s h o1 o2).kp ms s := by
  unfold mrg
  split
  · rename_i l1 s1 h1 e1
    split
    · split <;> exact selK_kp (one_kp o1 e1 k1) _
    · exact ⟨k1, k2⟩
  · exact ⟨k1, k2⟩
/-- Of the state less may be known. -/
def WQ (Q : Post) : Post := fun e s h => WK (Q e) s h
theorem mrg_post {b : Bool} {ms kn : List Nat} {s : Slots} {h : Hp} {o1 o2 : Oc} {Q : Post} (k1 : o1.kp ms s) (k2 : o2.kp ms s) (p : (mrg b ms kn s h o1 o2).post h (WQ Q)) : (b = true → o1.post h (WQ Q)) ∧ (b = false → o2.post h (WQ Q)) := by
  unfold mrg at p
  split at p
  · rename_i l1 s1 h1 e1
    split at p
    · rename_i l2 s2 h2 e2
      obtain ⟨g1, g2⟩ := selK_le (b := b) (one_kp o1 e1 k1) (one_kp o2 e2 k2) (keys s1)
      have key : ∀ (hm : Option Hp), (b = true → HLe (h1.getD h) (hm.getD h)) → (b = false → HLe (h2.getD h) (hm.getD h)) → (Oc.ob (brO b l1 l2) (.ok .normal (selK b ms s s1 s2 (keys s1)) hm kn)).post h (WQ Q) → (b = true → o1.post h (WQ Q)) ∧ (b = false → o2.post h (WQ Q)) := fun hm c1 c2 ⟨q1, s', h', q2, q3, q4⟩ => by
        obtain ⟨w1, w2⟩ := brO_ok q1
        exact ⟨fun hb => one_post o1 e1 (w1 hb) ⟨s', h', (SLe.of (g1 hb)).trans q2, (c1 hb).trans q3, q4⟩, fun hb => one_post o2 e2 (w2 hb) ⟨s', h', (SLe.of (g2 hb)).trans q2, (c2 hb).trans q3, q4⟩⟩
      split at p
      · exact key none (fun _ => .refl _) (fun _ => .refl _) p
      · exact key (some _) (fun hb => selH_t hb _ _ _) (fun hb => selH_f hb _ _ _) p
    · exact p
  · exact p
end Oc
open Oc

section
variable {E : Env} {k B : Nat} {s s' : Slots} {h h' : Hp} {Q Q' : Post} {X : Fx} {c : Cs} {F : Fi}
/-- What code assigns. -/
noncomputable def modC (code : Code) : List Nat :=
  Code.rec (motive := fun _ => List Nat) [] (fun _ ops _ => modL ops.toList) (fun _ _ a b => a ++ b) (fun t _ _ a b => match t with | .tmp t => t :: (a ++ b) | _ => a ++ b) (fun _ _ a => a) (fun _ a => a) (fun _ _ _ _ a b => a ++ b) (fun _ => []) (fun _ a => a) (fun _ => []) (fun _ => []) [] (fun _ => []) code
def noSel (l : List Oper) : Bool := Region.noSelect l.toArray
/-- The orders of a function's regions stand for all: reckoned once. -/
noncomputable def ordR (ord : List (Nat × Od)) (id : Nat) (l : List Oper) : Bool :=
  match lkr ord id with
  | some od => okOT l (gL l od.imp) od.t l.length (Array.replicate l.toArray.size false) && noSel l
  | none => true
noncomputable def ordC (ord : List (Nat × Od)) (code : Code) : Bool :=
  Code.rec (motive := fun _ => Bool) true (fun id ops draw => match draw with | true => ordR ord id ops.toList | false => true) (fun _ _ a b => a && b) (fun _ _ _ a b => a && b) (fun _ _ a => a) (fun _ a => a) (fun _ _ _ _ a b => a && b) (fun _ => true) (fun _ a => a) (fun _ => true) (fun _ => true) true (fun _ => true) code
/-- Names kept. -/
noncomputable def keep (rk : List (Nat × Nat)) (h : Hp) : Hp := ⟨List.rec h.n (fun _ _ ih => ih + 1) rk, h.b⟩
theorem keep_le (rk : List (Nat × Nat)) (h : Hp) : HLe h (keep rk h) := by
  refine ⟨?_, fun i y hy => ⟨y, hy, .refl _⟩⟩
  induction rk with
  | nil => exact Nat.le_refl _
  | cons p r ih =>
    show h.n ≤ (keep r h).n + 1
    exact Nat.le_succ_of_le ih
noncomputable def rids (rk : List (Nat × Nat)) (n i : Nat) : Option Nat := match lkr rk i with | some r => some (n + r) | none => none
/-- What a region assigns anew is no longer plain. -/
noncomputable def knR (fk ms kn : List Nat) : List Nat := List.rec [] (fun t _ ih => cond (memN t ms) (cond (memN t fk) (t :: ih) ih) (t :: ih)) kn
/-- A region. -/
noncomputable def regX (X : Fx) (c : Cs) (F : Fi) (B k id : Nat) (l : List Oper) (draw : Bool) (kn : List Nat) (s : Slots) (h : Hp) : Rn :=
  match lkr F.live id with
  | some live => match draw with
    | false => runO X c B k F.lit l live l (knR F.kn (modL l) kn) s h
    | true => match lkr F.ord id with
      | some od => match od.rk with
        | [] => runT X c B k F.lit l (gL l od.imp) (fun _ => none) live od.t (knR F.kn (modL l) kn) s h
        | rk => (runT X c B k F.lit l (gL l od.imp) (rids rk h.n) live od.t (knR F.kn (modL l) kn) s (keep rk h)).pre [] (some (keep rk h))
      | none => .bad 3002
  | none => .bad 3003
theorem regX_ok {id : Nat} {l : List Oper} {draw : Bool} {kn : List Nat} (hX : X.tab = E.tab) (he : EqT E X.eqs) (hc : CsOk E c) (hP : NoPanic Q) (ho : draw = true → ordR F.ord id l = true) (hp : (regX X c F B k id l draw kn s h).post h (WK (Q .normal))) : T E k B (.region id l.toArray draw) s h Q := by
  unfold regX at hp
  split at hp
  · rename_i live hlive
    split at hp
    · exact T.of_region (runO_TO hX he hc l l (fun _ ho => ho) _ s h hp)
    · split at hp
      · rename_i od hord
        have hok := ho rfl
        unfold ordR at hok
        rw [hord] at hok
        obtain ⟨h1, h3⟩ := and_split hok
        have fin : ∀ (h1 : Hp) (rd : Nat → Option Nat) (kn : List Nat), (runT X c B k F.lit l (gL l od.imp) rd live od.t kn s h1).post h1 (WK (Q .normal)) → T E k B (.region id l.toArray true) s h1 Q := fun h1' rd kn q => by
          have t := (runT_ok (B := B) (k := k) (lit := F.lit) (g := gL l od.imp) (live := live) hX he hc l rd hP h3 od.t l.length _ kn s h1' q).1 h1
          exact T.of_draw (gL l od.imp) (by rwa [show l.length = l.toArray.size by simp] at t)
        split at hp
        · exact fin h _ _ hp
        · obtain ⟨_, q⟩ := Rn.post_pre hp
          exact T.leS (fin _ _ _ q) (.refl _) (keep_le _ h)
      · exact hp.elim
  · exact hp.elim
noncomputable def ofRn (r : Rn) : Oc := match r with
  | .ok l s hn kn => .ob l (.ok .normal s hn kn)
  | .bad i => .bad i
theorem ofRn_post {r : Rn} (p : (ofRn r).post h Q) : r.post h (Q .normal) := by
  cases r with
  | ok l s hn kn => exact p
  | bad i => exact p
/-- Code, as far as it can be reckoned. -/
noncomputable def runC (X : Fx) (c : Cs) (F : Fi) (B k : Nat) (code : Code) : List Nat → Slots → Hp → Oc :=
  Code.rec (motive := fun _ => List Nat → Slots → Hp → Oc)
    (skip := fun kn s _ => .ok .normal s none kn)
    (region := fun id ops draw kn s h => ofRn (regX X c F B k id ops.toList draw kn s h))
    (seq := fun _ _ ix iy kn s h => (ix kn s h).bind h iy)
    (cond := fun t cx cy ix iy kn s h => match t with
      | .tmp t => match lkr s t with
        | some (.d (.bool b)) => match F.lit || memN t kn with
          | true => cond b (ix kn s h) (iy kn s h)
          | false => mrg b (t :: (modC cx ++ modC cy)) kn s h (ix (t :: kn) ((t, vb true) :: s) h) (iy (t :: kn) ((t, vb false) :: s) h)
        | _ => .bad t
      | .const (.bool b) => cond b (ix kn s h) (iy kn s h)
      | _ => .bad 3004)
    (block := fun id _ ix kn s h => (ix kn s h).blk id)
    (loop := fun _ ix => Nat.rec (motive := fun _ => List Nat → Slots → Hp → Oc) (fun _ _ _ => .bad 3005) (fun _ ih kn s h => (ix kn s h).bind h ih) F.unr)
    (rangeFunc := fun _ _ _ _ _ _ _ _ _ => .bad 3006)
    (exit := fun id kn s _ => .ok (.exit id) s none kn)
    (scope := fun _ _ _ _ _ => .bad 3007)
    (label := fun _ kn s _ => .ok .normal s none kn)
    (goto := fun l kn s _ => .ok (.goto l) s none kn)
    (ret := fun kn s _ => .ok .ret s none kn)
    (refuse := fun _ _ _ _ => .bad 3008)
    code
theorem regX_kp {id : Nat} {l : List Oper} {draw : Bool} {kn : List Nat} : (ofRn (regX X c F B k id l draw kn s h)).kp (modL l) s := by
  have fin : ∀ {r : Rn}, r.kp (modL l) s → (ofRn r).kp (modL l) s := fun {r} h => by cases r with
    | ok => exact h
    | bad => trivial
  apply fin
  unfold regX
  split
  · split
    · exact runO_kp l l (fun _ ho => ho) _ s h
    · split
      · split
        · exact runT_kp l _ _ _ s h
        · exact Rn.pre_kp (Kp.refl _ _) (runT_kp l _ _ _ _ _)
      · trivial
  · trivial
theorem runC_kp : ∀ (code : Code) (kn : List Nat) (s : Slots) (h : Hp), (runC X c F B k code kn s h).kp (modC code) s := by
  intro code
  induction code with
  | skip => exact fun kn s h => Kp.refl _ _
  | region id ops draw => exact fun kn s h => regX_kp
  | seq x y ix iy => exact fun kn s h => kp_bind (ms := modC x ++ modC y) (fun kn s h => kp_mono (fun t h => List.mem_append_right _ h) _ (iy kn s h)) _ (kp_mono (fun t h => List.mem_append_left _ h) _ (ix kn s h))
  | cond t x y ix iy =>
    intro kn s h
    have hl : ∀ t, t ∈ modC x → t ∈ modC x ++ modC y := fun t h => List.mem_append_left _ h
    have hr : ∀ t, t ∈ modC y → t ∈ modC x ++ modC y := fun t h => List.mem_append_right _ h
    have kc : ∀ (b : Bool) (o1 o2 : Oc) (ms : List Nat), o1.kp ms s → o2.kp ms s → (cond b o1 o2).kp ms s := fun b o1 o2 ms h1 h2 => by cases b <;> assumption
    cases t with
    | tmp t =>
      have gl : ∀ i, i ∈ modC x → i ∈ t :: (modC x ++ modC y) := fun i h => List.mem_cons_of_mem _ (hl i h)
      have gr : ∀ i, i ∈ modC y → i ∈ t :: (modC x ++ modC y) := fun i h => List.mem_cons_of_mem _ (hr i h)
      show Oc.kp (t :: (modC x ++ modC y)) s (match lkr s t with
        | some (.d (.bool b)) => match F.lit || memN t kn with
          | true => cond b (runC X c F B k x kn s h) (runC X c F B k y kn s h)
          | false => mrg b (t :: (modC x ++ modC y)) kn s h (runC X c F B k x (t :: kn) ((t, vb true) :: s) h) (runC X c F B k y (t :: kn) ((t, vb false) :: s) h)
        | _ => .bad t)
      split
      · split
        · exact kc _ _ _ _ (kp_mono gl _ (ix kn s h)) (kp_mono gr _ (iy kn s h))
        · exact kp_mrg (kp_from (Kp.put List.mem_cons_self _ s) _ (kp_mono gl _ (ix _ _ h))) (kp_from (Kp.put List.mem_cons_self _ s) _ (kp_mono gr _ (iy _ _ h)))
      · trivial
    | const d =>
      cases d with
      | bool b => exact kc b _ _ _ (kp_mono hl _ (ix kn s h)) (kp_mono hr _ (iy kn s h))
      | _ => trivial
    | _ => trivial
  | block id x ix => exact fun kn s h => kp_blk _ (ix kn s h)
  | loop x ix =>
    have key : ∀ (n : Nat) (kn : List Nat) (s : Slots) (h : Hp), Oc.kp (modC x) s (Nat.rec (motive := fun _ => List Nat → Slots → Hp → Oc) (fun _ _ _ => .bad 3005) (fun _ ih kn s h => (runC X c F B k x kn s h).bind h ih) n kn s h : Oc) := by
      intro n
      induction n with
      | zero => exact fun _ _ _ => trivial
      | succ n ih => exact fun kn s h => kp_bind ih _ (ix kn s h)
    exact fun kn s h => key _ kn s h
  | rangeFunc f ps x y ix iy => exact fun _ _ _ => trivial
  | exit id => exact fun kn s h => Kp.refl _ _
  | scope x ix => exact fun _ _ _ => trivial
  | label l => exact fun kn s h => Kp.refl _ _
  | goto l => exact fun kn s h => Kp.refl _ _
  | ret => exact fun kn s h => Kp.refl _ _
  | refuse w => exact fun _ _ _ => trivial
theorem runC_ok (hX : X.tab = E.tab) (he : EqT E X.eqs) (hc : CsOk E c) : ∀ (code : Code), ordC F.ord code = true → ∀ {Q : Post} (kn : List Nat) (s : Slots) (h : Hp), NoPanic Q → (runC X c F B k code kn s h).post h (WQ Q) → T E k B code s h Q := by
  have toQ : ∀ {code : Code} {Q : Post} {e : Exit} {s : Slots} {h : Hp}, (∀ s h, Q e s h → T E k B code s h Q) → WQ Q e s h → T E k B code s h Q := fun hq ⟨s', h', q1, q2, q3⟩ => T.leS (hq _ _ q3) q1 q2
  intro code
  induction code with
  | skip => intro _ Q kn s h hP p; exact toQ (fun s h q => T.skip q) p
  | region id ops draw =>
    intro ho Q kn s h hP p
    have := regX_ok (B := B) (k := k) (F := F) (id := id) (l := ops.toList) (draw := draw) hX he hc hP (fun e => by subst e; exact ho) (ofRn_post (Q := WQ Q) p)
    simpa using this
  | seq x y ix iy =>
    intro ho Q kn s h hP p
    have ho' : (ordC F.ord x && ordC F.ord y) = true := ho
    obtain ⟨ho1, ho2⟩ := and_split ho'
    have ix := @ix ho1
    have iy := @iy ho2
    refine T.seq (ix kn s h hP.thenP ?_)
    have := bind_post (Q := WQ Q) (N := fun s' h' => T E k B y s' h' Q) (fun kn s h q => iy kn s h hP q) (runC X c F B k x kn s h) p
    refine post_mono (fun e s h q => ?_) _ this
    cases e with
    | normal => exact ⟨s, h, .refl _, .refl _, q⟩
    | _ => exact q
  | cond t x y ix iy =>
    intro ho Q kn s h hP p
    have ho' : (ordC F.ord x && ordC F.ord y) = true := ho
    obtain ⟨ho1, ho2⟩ := and_split ho'
    have ix := @ix ho1
    have iy := @iy ho2
    have p' : (match t with
      | .tmp t => match lkr s t with
        | some (.d (.bool b)) => match F.lit || memN t kn with
          | true => cond b (runC X c F B k x kn s h) (runC X c F B k y kn s h)
          | false => mrg b (t :: (modC x ++ modC y)) kn s h (runC X c F B k x (t :: kn) ((t, vb true) :: s) h) (runC X c F B k y (t :: kn) ((t, vb false) :: s) h)
        | _ => .bad t
      | .const (.bool b) => cond b (runC X c F B k x kn s h) (runC X c F B k y kn s h)
      | _ => .bad 3004).post h (WQ Q) := p
    split at p'
    · rename_i t
      have kpx : ∀ kn v h, (runC X c F B k x kn ((t, v) :: s) h).kp (t :: (modC x ++ modC y)) s := fun kn v h => kp_from (Kp.put List.mem_cons_self v s) _ (kp_mono (fun t h => List.mem_cons_of_mem _ (List.mem_append_left _ h)) _ (runC_kp x kn _ h))
      have kpy : ∀ kn v h, (runC X c F B k y kn ((t, v) :: s) h).kp (t :: (modC x ++ modC y)) s := fun kn v h => kp_from (Kp.put List.mem_cons_self v s) _ (kp_mono (fun t h => List.mem_cons_of_mem _ (List.mem_append_right _ h)) _ (runC_kp y kn _ h))
      rw [lkr_eq] at p'
      split at p'
      · rename_i b hb
        split at p'
        · refine T.cond hb (fun e => ?_) (fun e => ?_)
          · subst e; exact ix kn s h hP p'
          · subst e; exact iy kn s h hP p'
        · obtain ⟨q1, q2⟩ := mrg_post (kpx _ _ _) (kpy _ _ _) p'
          exact T.cond hb (fun e => T.leS (ix _ _ h hP (q1 e)) (SLe.known hb e) (.refl _)) (fun e => T.leS (iy _ _ h hP (q2 e)) (SLe.known hb e) (.refl _))
      · exact p'.elim
    · rename_i b
      refine T.cond_const (fun e => ?_) (fun e => ?_)
      · subst e; exact ix kn s h hP p'
      · subst e; exact iy kn s h hP p'
    · exact p'.elim
  | block id x ix =>
    intro ho Q kn s h hP p
    have ix := @ix ho
    refine T.block (ix kn s h hP.inB ?_)
    have := blk_post (Q := WQ Q) (runC X c F B k x kn s h) p
    refine post_mono (fun e s h q => ?_) _ this
    cases e with
    | exit id' =>
      simp only [inBlockP, WQ] at q ⊢
      split at q
      · obtain ⟨s', h', q1, q2, q3⟩ := q
        exact ⟨s', h', q1, q2, by simp only [inBlockP]; rw [if_pos ‹_›]; exact q3⟩
      · obtain ⟨s', h', q1, q2, q3⟩ := q
        exact ⟨s', h', q1, q2, by simp only [inBlockP]; rw [if_neg ‹_›]; exact q3⟩
    | _ => exact q
  | loop x ix =>
    intro ho Q kn s h hP p
    have ix := @ix ho
    refine T.rounds F.unr ?_
    have key : ∀ (n : Nat) (kn : List Nat) (s : Slots) (h : Hp), (Nat.rec (motive := fun _ => List Nat → Slots → Hp → Oc) (fun _ _ _ => .bad 3005) (fun _ ih kn s h => (runC X c F B k x kn s h).bind h ih) n kn s h : Oc).post h (WQ Q) → TR E k B x n s h Q := by
      intro n
      induction n with
      | zero => exact fun kn s h p => p.elim
      | succ n ih =>
        intro kn s h p
        refine TR.succ (ix kn s h hP.thenP ?_)
        have := bind_post (Q := WQ Q) (N := fun s' h' => TR E k B x n s' h' Q) ih (runC X c F B k x kn s h) p
        refine post_mono (fun e s h q => ?_) _ this
        cases e with
        | normal => exact ⟨s, h, .refl _, .refl _, q⟩
        | _ => exact q
    exact key _ kn s h p
  | rangeFunc f ps x y ix iy => intro _ Q kn s h hP p; exact p.elim
  | exit id => intro _ Q kn s h hP p; exact toQ (fun s h q => T.exit q) p
  | scope x ix => intro _ Q kn s h hP p; exact p.elim
  | label l => intro _ Q kn s h hP p; exact toQ (fun s h q => T.label q) p
  | goto l => intro _ Q kn s h hP p; exact toQ (fun s h q => T.goto q) p
  | ret => intro _ Q kn s h hP p; exact toQ (fun s h q => T.ret q) p
  | refuse w => intro _ Q kn s h hP p; exact p.elim
end
end Go.Proofs.Ytmgckodihnmjoaa
