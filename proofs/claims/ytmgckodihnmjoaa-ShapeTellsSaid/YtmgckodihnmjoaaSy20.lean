/-
  Drawn regions, walked in one order. Conditions: none.
-/
import Derived.Test.YtmgckodihnmjoaaSy19
set_option linter.unusedVariables false
set_option linter.unusedSimpArgs false
set_option maxRecDepth 20000
namespace Go.Proofs.Ytmgckodihnmjoaa
open Go.RowKit

def actB : Op → Bool
  | .store _ _ _ => false
  | _ => true
section
variable {E : Env} {k B : Nat} {s s' : Slots} {h h' : Hp} {Q Q' : Post} {o : Oper} {v : V} {d : Nat}
theorem actF_okG (h1 : actF E.tab k o s h = some (s', h')) : Ac E k B (actB o.op) s h o s' h' := by
  obtain ⟨hn, hb'⟩ := h
  unfold actF at h1
  dsimp only at h1
  split at h1
  · rename_i t x d ho hd
    have hb : actB o.op = true := by rw [ho]; rfl
    rw [hb]
    split at h1
    · rename_i v hk hx
      split at h1
      · rename_i l hl
        injection h1 with h1
        simp only [Prod.mk.injEq] at h1
        obtain ⟨rfl, rfl⟩ := h1
        obtain ⟨e1, e2⟩ := csOf_ok hl
        subst e1
        exact Ac.box ho hd hk hx e2 rfl
      · cases h1
    · cases h1
  · rename_i t d ho hd
    have hb : actB o.op = true := by rw [ho]; rfl
    rw [hb]
    split at h1
    · rename_i ty hk ht
      obtain ⟨td, tz, tb, tr⟩ := ty
      dsimp only at h1
      cases tr with
      | none => cases h1
      | some z =>
        dsimp only at h1
        split at h1
        · rename_i l hl
          injection h1 with h1
          simp only [Prod.mk.injEq] at h1
          obtain ⟨rfl, rfl⟩ := h1
          exact Ac.alloc ho hd hk ht rfl hl rfl
        · cases h1
    · cases h1
  · rename_i t x y ho hd
    have hb : actB o.op = false := by rw [ho]; rfl
    rw [hb]
    split at h1
    · rename_i ty id off v ht hx hy
      obtain ⟨td, tz, tb, tr⟩ := ty
      dsimp only at h1
      split at h1
      · rename_i bc l hb hl
        split at h1
        · rename_i bc' hz hp
          injection h1 with h1
          simp only [Prod.mk.injEq] at h1
          obtain ⟨rfl, rfl⟩ := h1
          obtain ⟨e1, e2⟩ := csOf_ok hl
          subst e1
          obtain ⟨e3, e4⟩ := putN_ok hp
          rw [← e3]
          exact Ac.store ho hd ht hx hb hy e2 (by rw [lenN_ok hz]; exact Nat.beq_refl _) (Nat.ble_eq_true_of_le e4)
        · cases h1
      · cases h1
    · cases h1
  · cases h1
/-- What makes, writes or calls. -/
def effO : Op → Bool
  | .store _ _ _ => true
  | .alloc _ => true
  | .box _ _ => true
  | .buildSlice _ _ _ => true
  | .call { callee := .builtin .len, .. } => false
  | .call { callee := .builtin .cap, .. } => false
  | .call { callee := .builtin .max, .. } => false
  | .call { callee := .builtin .min, .. } => false
  | .call _ => true
  | _ => false
/-- What leaves the blocks at hand as they are. -/
def gO : Op → Bool
  | .store _ _ _ => false
  | .call { callee := .builtin .append, .. } => false
  | .call { callee := .builtin .copy, .. } => false
  | .call { callee := .builtin .clear, .. } => false
  | .call { callee := .builtin .delete, .. } => false
  | .mapUpdate .. => false
  | _ => true
def gL (l : List Oper) (imp : List Nat) (i : Nat) : Bool := match getN l i with
  | some o => gO o.op && !imp.contains i
  | none => true
/-- The order is one in which each operation that makes, writes or calls is the only one that may come. -/
def okO (l : List Oper) (g : Nat → Bool) : Array Bool → List Nat → Bool
  | listed, [] => (Region.ready .any l.toArray listed).isEmpty
  | listed, i :: r => (match getN l i with
    | some o => match effO o.op with
      | true => (Region.ready .any l.toArray listed) == [i]
      | false => (Region.free .any l.toArray listed i && (Region.ready .any l.toArray listed).contains i) && freeG l.toArray listed i g
    | none => false) && okO l g (listed.setIfInBounds i true) r
def TL (E : Env) (k B : Nat) (l : List Oper) (g : Nat → Bool) (σ : List Nat) (listed : Array Bool) (s : Slots) (h : Hp) (Q : Post) : Prop :=
  okO l g listed σ = true → NoPanic Q → Region.noSelect l.toArray = true → TA E k B l.toArray g σ.length listed s h Q
variable {l : List Oper} {g : Nat → Bool} {σ : List Nat} {listed : Array Bool} {i : Nat}
theorem T.of_drawL {id : Nat} (σ : List Nat) (g : Nat → Bool) (hok : okO l g (Array.replicate l.toArray.size false) σ = true) (hlen : σ.length = l.length) (hP : NoPanic Q) (hs : Region.noSelect l.toArray = true)
    (t : TL E k B l g σ (Array.replicate l.toArray.size false) s h Q) : T E k B (.region id l.toArray true) s h Q :=
  T.of_draw g (by have := t hok hP hs; rwa [hlen, show l.length = l.toArray.size by simp] at this)
theorem T.of_drawI {id : Nat} (σ imp : List Nat) (hok : okO l (gL l imp) (Array.replicate l.toArray.size false) σ = true) (hlen : σ.length = l.length) (hP : NoPanic Q) (hs : Region.noSelect l.toArray = true)
    (t : TL E k B l (gL l imp) σ (Array.replicate l.toArray.size false) s h Q) : T E k B (.region id l.toArray true) s h Q := T.of_drawL σ _ hok hlen hP hs t
theorem get_toArray (l : List Oper) (i : Nat) (hi : getN l i = some o) : l.toArray[i]? = some o := by
  rw [List.getElem?_toArray, ← getN_eq]; exact hi
theorem TL.nil (q : Q .normal s h) : TL E k B l g [] listed s h Q := fun hok _ _ => TA.done (by simpa [okO] using hok) q
theorem TL.yW {ρ : Bool} (hi : getN l i = some o) (hne : effO o.op = false) (y : Yl ρ E k B s h { o with guard := none } v) (hw : Wants s l.toArray o true) (hd : o.dst = some d) (hk : Nat.blt d k = true) (t : TL E k B l g σ (listed.setIfInBounds i true) ((d, v) :: s) h Q) :
    TL E k B l g (i :: σ) listed s h Q := fun hok hP hs => by
  simp only [okO, hi, hne, Bool.and_eq_true] at hok
  exact TA.take i (get_toArray l i hi) y hw hd hk hP hs hok.1.1.1 hok.1.1.2 (by rw [hok.1.2]; cases ρ <;> rfl) (t hok.2 hP hs)
theorem TL.y {ρ : Bool} (hi : getN l i = some o) (y : Yl ρ E k B s h { o with guard := none } v) (hne : effO o.op = false) (hd : o.dst = some d) (hk : Nat.blt d k = true) (hg : o.guard = none) (t : TL E k B l g σ (listed.setIfInBounds i true) ((d, v) :: s) h Q) :
    TL E k B l g (i :: σ) listed s h Q := TL.yW hi hne y (.none hg) hd hk t
theorem TL.step (hi : getN l i = some o) (e1 : yieldF E.tab s h.b o.op = some v) (hne : effO o.op = false) (hd : o.dst = some d) (hk : Nat.blt d k = true) (hg : o.guard = none) (t : TL E k B l g σ (listed.setIfInBounds i true) ((d, v) :: s) h Q) :
    TL E k B l g (i :: σ) listed s h Q := TL.yW (ρ := true) hi hne (yieldF_ok e1) (.none hg) hd hk t
theorem TL.shut {j dj : Nat} {want b : Bool} (hi : getN l i = some o) (hg : o.guard = some (j, want)) (hd : o.dst = some d) (hk : Nat.blt d k = true) (hne : effO o.op = false) (hj : yieldSlot l.toArray j = some dj) (hb : lk s dj = some (vb b)) (hw : b = !want) (t : TL E k B l g σ (listed.setIfInBounds i true) ((d, .un) :: s) h Q) :
    TL E k B l g (i :: σ) listed s h Q := fun hok hP hs => by
  simp only [okO, hi, hne, Bool.and_eq_true] at hok
  exact TA.shut i (get_toArray l i hi) (.shut hg hj hb hw) hd hk hP hs hok.1.1.1 hok.1.1.2 (t hok.2 hP hs)
theorem TL.openY {ρ : Bool} {j dj : Nat} {want b : Bool} (hi : getN l i = some o) (hg : o.guard = some (j, want)) (hj : yieldSlot l.toArray j = some dj) (hb : lk s dj = some (vb b)) (hw : b = want) (y : Yl ρ E k B s h { o with guard := none } v) (hne : effO o.op = false) (hd : o.dst = some d) (hk : Nat.blt d k = true) (t : TL E k B l g σ (listed.setIfInBounds i true) ((d, v) :: s) h Q) :
    TL E k B l g (i :: σ) listed s h Q := TL.yW hi hne y (.open hg hj hb hw) hd hk t
theorem TL.a {gg : Bool} (hi : getN l i = some o) (y : Ac E k B gg s h { o with guard := none } s' h') (hne : effO o.op = true) (hg : o.guard = none) (hgg : (!g i || gg) = true) (t : TL E k B l g σ (listed.setIfInBounds i true) s' h' Q) :
    TL E k B l g (i :: σ) listed s h Q := fun hok hP hs => by
  simp only [okO, hi, hne, Bool.and_eq_true, beq_iff_eq] at hok
  exact TA.ac i (get_toArray l i hi) y (.none hg) hok.1 hgg (t hok.2 hP hs)
theorem TL.act (hi : getN l i = some o) (e1 : actF E.tab k { o with guard := none } s h = some (s', h')) (hne : effO o.op = true) (hg : o.guard = none) (hgg : (!g i || actB o.op) = true) (t : TL E k B l g σ (listed.setIfInBounds i true) s' h' Q) :
    TL E k B l g (i :: σ) listed s h Q := TL.a hi (actF_okG e1) hne hg hgg t
theorem TL.fn {f : FuncId} {xs : Array Operand} {ats : Array TypeId} {args vs : List V} {rv : V} (hi : getN l i = some o) (ho : o.op = .call { callee := .value (.func f), args := xs, argTypes := ats })
    (c : Fn E f args rv) (he : Enters E f) (hv : evL s xs.toList = some vs) (ha : AL vs args) (hg : o.guard = none) (hk : dstOk o.dst k = true) (t : TL E k B l g σ (listed.setIfInBounds i true) (putR o.dst rv s) h Q) :
    TL E k B l g (i :: σ) listed s h Q := fun hok hP hs => by
  have hne : effO o.op = true := by rw [ho]; rfl
  simp only [okO, hi, hne, Bool.and_eq_true, beq_iff_eq] at hok
  exact TA.fn i (get_toArray l i hi) ho c he hv ha (.none hg) hk hok.1 (t hok.2 hP hs)
theorem TL.fnB {f : FuncId} {xs : Array Operand} {ats : Array TypeId} {args vs : List V} {rv : V} (hi : getN l i = some o) (ho : o.op = .call { callee := .value (.func f), args := xs, argTypes := ats })
    (c : Fn E f args rv) (he : Enters E f) (hv : evL s xs.toList = some vs) (ha : BL h vs args) (hfl : rv.flat = true) (hg : o.guard = none) (hk : dstOk o.dst k = true) (t : TL E k B l g σ (listed.setIfInBounds i true) (putR o.dst rv s) h Q) :
    TL E k B l g (i :: σ) listed s h Q := fun hok hP hs => by
  have hne : effO o.op = true := by rw [ho]; rfl
  simp only [okO, hi, hne, Bool.and_eq_true, beq_iff_eq] at hok
  exact TA.fnB i (get_toArray l i hi) ho c he hv ha hfl (.none hg) hk hok.1 (t hok.2 hP hs)
theorem TL.call {f : FuncId} {xs : Array Operand} {ats : Array TypeId} {args vs : List V} {R : V → Hp → Prop} (hi : getN l i = some o) (ho : o.op = .call { callee := .value (.func f), args := xs, argTypes := ats })
    (c : Call E f args h R) (he : Enters E f) (hv : evL s xs.toList = some vs) (ha : AL vs args) (hg : o.guard = none) (hk : dstOk o.dst k = true) (hgi : g i = false) (t : ∀ r h', R r h' → TL E k B l g σ (listed.setIfInBounds i true) (putR o.dst r s) h' Q) :
    TL E k B l g (i :: σ) listed s h Q := fun hok hP hs => by
  have hne : effO o.op = true := by rw [ho]; rfl
  simp only [okO, hi, hne, Bool.and_eq_true, beq_iff_eq] at hok
  exact TA.call i (get_toArray l i hi) ho c he hv ha (.none hg) hk hok.1 hgi (fun r h' hr => t r h' hr hok.2 hP hs)
theorem TL.split {j dj : Nat} {want b : Bool} (hi : getN l i = some o) (hg : o.guard = some (j, want)) (hj : yieldSlot l.toArray j = some dj) (hb : lk s dj = some (vb b)) (ht : b = want → TL E k B l g (i :: σ) listed s h Q) (hf : b = (!want) → TL E k B l g (i :: σ) listed s h Q) : TL E k B l g (i :: σ) listed s h Q := fun hok hP hs =>
  TA.split i (get_toArray l i hi) hg hj hb (fun e => ht e hok hP hs) (fun e => hf e hok hP hs)
theorem NoPanic.thenP {n : Slots → Hp → Prop} (h : NoPanic Q) : NoPanic (thenP n Q) := fun c s h' q => h c s h' q
theorem NoPanic.inB {n : Nat} (h : NoPanic Q) : NoPanic (inBlockP n Q) := fun c s h' q => h c s h' q
theorem NoPanic.seqC {p : Slots → Prop} {q : Hp → Prop} : NoPanic (fun e s' h' => e = Exit.normal ∧ p s' ∧ q h') := fun c s h q => by cases q.1
theorem T.atDraw (id : Nat) (t : T E k B (.region id l.toArray true) s h Q) : T E k B (.region id l.toArray true) s h Q := t
theorem TO.atCall {ops : Array Oper} {rest : List Oper} (f : FuncId) {xs : Array Operand} {ats : Array TypeId} (ho : o.op = .call { callee := .value (.func f), args := xs, argTypes := ats }) (t : TO E k B ops (o :: rest) s h Q) : TO E k B ops (o :: rest) s h Q := t
theorem TL.atCall (f : FuncId) {xs : Array Operand} {ats : Array TypeId} (hi : getN l i = some o) (ho : o.op = .call { callee := .value (.func f), args := xs, argTypes := ats }) (t : TL E k B l g (i :: σ) listed s h Q) : TL E k B l g (i :: σ) listed s h Q := t
theorem hasL_map (i : Nat) : ∀ l : List D, hasL i (l.map .d) = false
  | [] => rfl
  | x :: r => by simp only [List.map_cons, hasL, V.has, hasL_map i r, Bool.or_false]
/-- Data appended to a row of data. -/
theorem Ac.appendD {x y : Operand} {t : TypeId} {td : TypeDesc} {tz tb : Nat} {tr : Option Value} {e : TypeId} {ed : TypeDesc} {ez eb : Nat} {er : Option Value} {id n nn : Nat} {z : Value} {bc cs : List D} (ho : o.op = .call { callee := .builtin .append, args := #[x, y], argTypes := #[t, t] }) (hd : o.dst = some d) (hk : Nat.blt d k = true) (ht : lk E.tab t = some ⟨td, tz, tb, tr⟩) (hty : td = .slice e) (hte : lk E.tab e = some ⟨ed, ez, eb, er⟩)
    (hz : er = some z) (hzs : z.cells.size = ez) (hx : evO s x = some (.sl ez id 0 n)) (hb : lk h.b id = some (some (.dat bc))) (hB : Nat.ble B id = true) (hy : evO s y = some (.d (.lst nn cs))) (he : Nat.blt 0 ez = true) (he0 : Nat.blt 0 eb = true) (hlen : bc.length = n * ez) (hcl : cs.length = nn * ez)
    (hby : (n + nn) * eb ≤ 140737488355328) :
    Ac E k B false s h o ((d, .sl ez id 0 (n + nn)) :: dropS id s) ⟨h.n, (id, some (.dat (bc ++ cs))) :: dropH id h.b⟩ :=
  Ac.append ho hd hk ht hty hte hz hzs hx hb (Nat.le_of_ble_eq_true hB) (.dat bc) (by simpa using hlen) (Src.lst hy hcl (Nat.le_of_ble_eq_true he)) (hasL_map _ _) (hasL_map _ _) (by rw [← List.map_append]; exact .dat _) hby (Nat.le_of_ble_eq_true he0)
end
macro "no_panic" : tactic => `(tactic| repeat (first | exact FinC.noPanic | exact Fin.noPanic | exact NoPanic.seqC | refine NoPanic.thenP ?_ | refine NoPanic.inB ?_))
end Go.Proofs.Ytmgckodihnmjoaa
