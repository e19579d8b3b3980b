/-
  The logic's reckoner for what makes and writes blocks; loops round by round. Conditions: none.
-/
import Derived.Test.YtmgckodihnmjoaaSy16
set_option linter.unusedVariables false
set_option linter.unusedSimpArgs false
set_option maxRecDepth 20000
namespace Go.Proofs.Ytmgckodihnmjoaa
open Go.RowKit

def putN {α : Type} : Nat → List α → List α → Option (List α)
  | 0, [], l => some l
  | 0, _ :: _, [] => none
  | 0, v :: r, _ :: l => match putN 0 r l with
    | some l' => some (v :: l')
    | none => none
  | _ + 1, _, [] => none
  | n + 1, new, x :: l => match putN n new l with
    | some l' => some (x :: l')
    | none => none
theorem putN_ok : ∀ {n : Nat} {new l r : List V}, putN n new l = some r → lput l n new = r ∧ n + new.length ≤ l.length
  | 0, [], l, r, h => by simp only [putN, Option.some.injEq] at h; subst h; simp [lput]
  | 0, v :: new, [], r, h => by cases h
  | 0, v :: new, x :: l, r, h => by
    simp only [putN] at h
    split at h
    · rename_i l' h1
      injection h with h; subst h
      obtain ⟨h2, h3⟩ := putN_ok h1
      refine ⟨?_, by simp only [List.length_cons]; omega⟩
      simp only [lput, List.take_zero, List.nil_append, Nat.zero_add, List.length_cons, List.drop_succ_cons] at h2 ⊢
      rw [← h2, List.cons_append]
    · cases h
  | n + 1, new, [], r, h => by cases h
  | n + 1, new, x :: l, r, h => by
    simp only [putN] at h
    split at h
    · rename_i l' h1
      injection h with h; subst h
      obtain ⟨h2, h3⟩ := putN_ok h1
      refine ⟨?_, by simp only [List.length_cons]; omega⟩
      simp only [lput, List.take_succ_cons, List.cons_append, show n + 1 + new.length = (n + new.length) + 1 by omega, List.drop_succ_cons] at h2 ⊢
      rw [← h2]
    · cases h
def lenN {α : Type} : Nat → List α → Bool
  | 0, [] => true
  | n + 1, _ :: r => lenN n r
  | _, _ => false
theorem lenN_ok {α : Type} : ∀ {n : Nat} {l : List α}, lenN n l = true → l.length = n
  | 0, [], _ => rfl
  | 0, _ :: _, h => by cases h
  | n + 1, [], h => by cases h
  | n + 1, _ :: r, h => by simp only [List.length_cons]; rw [lenN_ok (n := n) (l := r) (by simpa [lenN] using h)]
def okL : List V → Bool
  | [] => true
  | v :: r => match cellOk v with
    | true => okL r
    | false => false
theorem okL_eq : ∀ l : List V, okL l = l.all cellOk
  | [] => rfl
  | v :: r => by simp only [okL, List.all_cons]; cases cellOk v <;> simp [okL_eq r]
def csOf : V → Option (List V)
  | .agg cs => match okL cs with
    | true => some cs
    | false => none
  | .un => none
  | .tup _ => none
  | v => some [v]
theorem csOf_ok {v : V} {l : List V} (h : csOf v = some l) : v.cs = l ∧ v.cs.all cellOk = true := by
  unfold csOf at h
  split at h
  · rename_i cs
    split at h
    · rename_i h1; injection h with h; subst h; exact ⟨rfl, by rw [← okL_eq]; exact h1⟩
    · cases h
  · cases h
  · cases h
  · injection h with h; subst h
    cases v <;> first | exact ⟨rfl, rfl⟩ | (exfalso; simp_all)
/-- What an operation that makes or writes comes to. -/
def actF (tab : List (Nat × Ty)) (k : Nat) (o : Oper) (s : Slots) : Hp → Option (Slots × Hp)
  | ⟨hn, hb⟩ => match o.op, o.dst with
  | .box _ x, some d => match Nat.blt d k, evO s x with
    | true, some v => match csOf v with
      | some l => some ((d, .ptr hn 0) :: s, ⟨hn + 1, (hn, some (.cells l)) :: hb⟩)
      | none => none
    | _, _ => none
  | .alloc t, some d => match Nat.blt d k, lk tab t with
    | true, some ty => match ty.zero with
      | some z => match absL z.cells.toList with
        | some l => some ((d, .ptr hn 0) :: s, ⟨hn + 1, (hn, some (.cells l)) :: hb⟩)
        | none => none
      | none => none
    | _, _ => none
  | .store t x y, none => match lk tab t, evO s x, evO s y with
    | some ty, some (.ptr id off), some v => match lk hb id, csOf v with
      | some (some (.cells bc)), some l => match lenN ty.size l, putN off l bc with
        | true, some bc' => some (s, ⟨hn, (id, some (.cells bc')) :: hb⟩)
        | _, _ => none
      | _, _ => none
    | _, _, _ => none
  | _, _ => none
section
variable {E : Env} {k B : Nat} {s s' : Slots} {h h' : Hp} {Q Q' : Post} {o : Oper} {v : V} {d : Nat} {ops : Array Oper} {rest : List Oper} {c : Code}
theorem actF_ok (h1 : actF E.tab k o s h = some (s', h')) : Ac E k B false s h o s' h' := by
  have weak : ∀ {g : Bool}, Ac E k B g s h o s' h' → Ac E k B false s h o s' h' := fun {g} y U m a w r => by
    obtain ⟨nx, a', w', U', m', e1, e2, e3, e4, _⟩ := y U m a w r
    exact ⟨nx, a', w', U', m', e1, e2, e3, e4, fun h => by cases h⟩
  obtain ⟨hn, hb'⟩ := h
  unfold actF at h1
  dsimp only at h1
  split at h1
  · rename_i t x d ho hd
    split at h1
    · rename_i v hk hx
      split at h1
      · rename_i l hl
        injection h1 with h1
        simp only [Prod.mk.injEq] at h1
        obtain ⟨rfl, rfl⟩ := h1
        obtain ⟨e1, e2⟩ := csOf_ok hl
        subst e1
        exact weak (Ac.box ho hd hk hx e2 rfl)
      · cases h1
    · cases h1
  · rename_i t d ho hd
    split at h1
    · rename_i ty hk ht
      obtain ⟨td, tz, tb, tr⟩ := ty
      dsimp only at h1
      cases tr with
      | none => cases h1
      | some z =>
        dsimp only at h1
        split at h1
        · rename_i l hl
          injection h1 with h1
          simp only [Prod.mk.injEq] at h1
          obtain ⟨rfl, rfl⟩ := h1
          exact weak (Ac.alloc ho hd hk ht rfl hl rfl)
        · cases h1
    · cases h1
  · rename_i t x y ho hd
    split at h1
    · rename_i ty id off v ht hx hy
      obtain ⟨td, tz, tb, tr⟩ := ty
      dsimp only at h1
      split at h1
      · rename_i bc l hb hl
        split at h1
        · rename_i bc' hz hp
          injection h1 with h1
          simp only [Prod.mk.injEq] at h1
          obtain ⟨rfl, rfl⟩ := h1
          obtain ⟨e1, e2⟩ := csOf_ok hl
          subst e1
          obtain ⟨e3, e4⟩ := putN_ok hp
          rw [← e3]
          exact Ac.store ho hd ht hx hb hy e2 (by rw [lenN_ok hz]; exact Nat.beq_refl _) (Nat.ble_eq_true_of_le e4)
        · cases h1
      · cases h1
    · cases h1
  · cases h1
/-- As many as there are, of both kinds. -/
def runG (tab : List (Nat × Ty)) (k : Nat) : List Oper → Slots → Hp → List Oper × Slots × Hp
  | [], s, h => ([], s, h)
  | o :: r, s, h => match o.guard with
    | none => match stepF tab k o s h.b with
      | some s' => runG tab k r s' h
      | none => match actF tab k o s h with
        | some (s1, h1) => runG tab k r s1 h1
        | none => (o :: r, s, h)
    | some _ => (o :: r, s, h)
theorem TO.runAll (l : List Oper) {l' : List Oper} {s' : Slots} {h' : Hp} (hr : runG E.tab k l s h = (l', s', h')) (t : TO E k B ops l' s' h' Q) : TO E k B ops l s h Q := by
  induction l generalizing s h with
  | nil =>
    simp only [runG, Prod.mk.injEq] at hr
    obtain ⟨rfl, rfl, rfl⟩ := hr
    exact t
  | cons o r ih =>
    simp only [runG] at hr
    split at hr
    · rename_i hg
      split at hr
      · rename_i s2 h2
        unfold stepF at h2
        split at h2
        · rename_i d hg hd
          split at h2
          · rename_i hk
            split at h2
            · rename_i v hv
              injection h2 with h2; subst h2
              exact TO.yl hg hd hk (yieldF_ok hv) (ih hr)
            · cases h2
          · cases h2
        · cases h2
      · split at hr
        · rename_i s1 h1 hp
          exact TO.ac hg (actF_ok hp) (ih hr)
        · simp only [Prod.mk.injEq] at hr
          obtain ⟨rfl, rfl, rfl⟩ := hr
          exact t
    · simp only [Prod.mk.injEq] at hr
      obtain ⟨rfl, rfl, rfl⟩ := hr
      exact t
theorem TO.actG {s1 : Slots} {h1 : Hp} (hg : o.guard = none) (e1 : actF E.tab k o s h = some (s1, h1)) {l' : List Oper} {s' : Slots} {h' : Hp} (hr : runG E.tab k rest s1 h1 = (l', s', h')) (t : TO E k B ops l' s' h' Q) : TO E k B ops (o :: rest) s h Q :=
  TO.ac hg (actF_ok e1) (TO.runAll rest hr t)
theorem TO.step1 {s1 : Slots} (h2 : stepF E.tab k o s h.b = some s1) (t : TO E k B ops rest s1 h Q) : TO E k B ops (o :: rest) s h Q := by
  unfold stepF at h2
  split at h2
  · rename_i d hg hd
    split at h2
    · rename_i hk
      split at h2
      · rename_i v hv
        injection h2 with h2; subst h2
        exact TO.yl hg hd hk (yieldF_ok hv) t
      · cases h2
    · cases h2
  · cases h2
theorem TO.stepG {s1 : Slots} (e1 : stepF E.tab k o s h.b = some s1) {l' : List Oper} {s' : Slots} {h' : Hp} (hr : runG E.tab k rest s1 h = (l', s', h')) (t : TO E k B ops l' s' h' Q) : TO E k B ops (o :: rest) s h Q :=
  TO.step1 e1 (TO.runAll rest hr t)
/-- A loop, round by round. -/
def TR (E : Env) (k B : Nat) (c : Code) (n : Nat) (s : Slots) (h : Hp) (Q : Post) : Prop :=
  ∀ U m a w, SR k B U m s h a w → Code.rounds E.P c (RP k B U m h w Q) n a w
theorem TR.succ {n : Nat} (t : T E k B c s h (thenP (fun s' h' => TR E k B c n s' h' Q) Q)) : TR E k B c (n + 1) s h Q := fun U m a w r => by
  rw [rounds_succ]
  refine wp_mono (t U m a w r) fun e a' w' ⟨U', m', s', h', q, r', st⟩ => ?_
  cases e with
  | normal => exact rounds_mono (fun e a2 w2 q2 => RP_trans st q2) _ _ _ (q U' m' a' w' r')
  | _ => exact ⟨U', m', s', h', q, r', st⟩
theorem T.rounds (n : Nat) (t : TR E k B c n s h Q) : T E k B (.loop c) s h Q := fun U m a w r => wp_loop_rounds n (t U m a w r)
theorem TR.le {n : Nat} (t : TR E k B c n s' h Q) (hl : Le s s') : TR E k B c n s h Q := fun U m a w r => t U m a w (r.le hl)
end
end Go.Proofs.Ytmgckodihnmjoaa
