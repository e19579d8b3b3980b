/-
  The logic's reckoner: many operations at once, those whose outcome is told by their operands' forms. Conditions: none.
-/
import Derived.Test.YtmgckodihnmjoaaSy11
set_option linter.unusedVariables false
set_option linter.unusedSimpArgs false
set_option maxRecDepth 20000
namespace Go.Proofs.Ytmgckodihnmjoaa
open Go.RowKit

def dropN {α : Type} : Nat → List α → Option (List α)
  | 0, l => some l
  | _ + 1, [] => none
  | n + 1, _ :: r => dropN n r
def takeN {α : Type} : Nat → List α → Option (List α)
  | 0, _ => some []
  | _ + 1, [] => none
  | n + 1, x :: r => match takeN n r with
    | some l => some (x :: l)
    | none => none
theorem dropN_ok {α : Type} : ∀ {n : Nat} {l r : List α}, dropN n l = some r → l.drop n = r ∧ n ≤ l.length
  | 0, l, r, h => by simp only [dropN, Option.some.injEq] at h; subst h; simp
  | n + 1, [], r, h => by simp [dropN] at h
  | n + 1, x :: l, r, h => by
    obtain ⟨h1, h2⟩ := dropN_ok (n := n) (l := l) (by simpa [dropN] using h)
    exact ⟨by simpa using h1, by simp; omega⟩
theorem takeN_ok {α : Type} : ∀ {n : Nat} {l r : List α}, takeN n l = some r → l.take n = r ∧ r.length = n
  | 0, l, r, h => by simp only [takeN, Option.some.injEq] at h; subst h; simp
  | n + 1, [], r, h => by simp [takeN] at h
  | n + 1, x :: l, r, h => by
    simp only [takeN] at h
    split at h
    · rename_i l' h1
      injection h with h; subst h
      obtain ⟨h2, h3⟩ := takeN_ok h1
      exact ⟨by simp [h2], by simp [h3]⟩
    · cases h
def mapD : List D → List V
  | [] => []
  | x :: r => .d x :: mapD r
theorem mapD_eq (l : List D) : mapD l = l.map .d := by
  induction l with
  | nil => rfl
  | cons x r ih => simp only [mapD, ih, List.map_cons]
/-- A value made of cells. -/
def mkV : Bool → List V → Option V
  | true, l => some (.agg l)
  | false, [c] => some c
  | false, _ => none
theorem mkV_ok {g : Bool} {l : List V} {v : V} (h : mkV g l = some v) : mk g l = v := by
  unfold mkV at h
  split at h
  · simp only [Option.some.injEq] at h; subst h; rfl
  · simp only [Option.some.injEq] at h; subst h; rfl
  · cases h
def nsize (g : Bool) (z : Nat) : Nat := match g with | true => z | false => 1
theorem nsize_eq (g : Bool) (z : Nat) : nsize g z = bif g then z else 1 := by cases g <;> rfl
def loadF (tab : List (Nat × Ty)) (b : Heap) (t : Nat) : V → Option V
  | .ptr id off => match lk tab t, lk b id with
    | some ty, some (some (.cells cs)) => match dropN off cs with
      | some r => match takeN (nsize (aggD ty.d) ty.size) r with
        | some l => mkV (aggD ty.d) l
        | none => none
      | none => none
    | some ty, some (some (.dat cs)) => match dropN off cs with
      | some r => match takeN (nsize (aggD ty.d) ty.size) r with
        | some l => mkV (aggD ty.d) (mapD l)
        | none => none
      | none => none
    | _, _ => none
  | .d (.lptr cs) => match lk tab t with
    | some ty => match takeN (nsize (aggD ty.d) ty.size) cs with
      | some l => mkV (aggD ty.d) (mapD l)
      | none => none
    | none => none
  | _ => none
def fieldsOf : TypeDesc → Option (List Field)
  | .struct fs => some fs.toList
  | _ => none
def getN {α : Type} : List α → Nat → Option α
  | [], _ => none
  | x :: _, 0 => some x
  | _ :: r, n + 1 => getN r n
theorem getN_eq {α : Type} : ∀ (l : List α) (n : Nat), getN l n = l[n]?
  | [], n => by simp [getN]
  | x :: r, 0 => by simp [getN]
  | x :: r, n + 1 => by simp only [getN, List.getElem?_cons_succ]; exact getN_eq r n
def fieldAddrF (tab : List (Nat × Ty)) (t i : Nat) (v : V) : Option V :=
  match lk tab t with
  | some ty => match fieldsOf ty.d with
    | some fs => match getN fs i with
      | some f => match lk tab f.type with
        | some tf => match tf.size with
          | 0 => none
          | _ + 1 => match v with
            | .ptr id off => some (.ptr id (off + f.offset))
            | .d (.lptr cs) => match dropN f.offset cs with
              | some r => some (.d (.lptr r))
              | none => none
            | _ => none
        | none => none
      | none => none
    | none => none
  | none => none
def fieldF (tab : List (Nat × Ty)) (t i : Nat) (v : V) : Option V :=
  match lk tab t with
  | some ty => match fieldsOf ty.d with
    | some fs => match getN fs i with
      | some f => match lk tab f.type with
        | some tf => match nsize (aggD tf.d) tf.size with
          | 0 => none
          | n + 1 => match v with
            | .agg cs => match dropN f.offset cs with
              | some r => match takeN (n + 1) r with
                | some l => mkV (aggD tf.d) l
                | none => none
              | none => none
            | _ => none
        | none => none
      | none => none
    | none => none
  | none => none
def binF : BinOp → V → V → Option V
  | .lss, .d (.int .i64 a), .d (.int .i64 b) => some (vb (decide (a < b)))
  | .leq, .d (.int .i64 a), .d (.int .i64 b) => some (vb (decide (a ≤ b)))
  | .gtr, .d (.int .i64 a), .d (.int .i64 b) => some (vb (decide (b < a)))
  | .geq, .d (.int .i64 a), .d (.int .i64 b) => some (vb (decide (b ≤ a)))
  | .eql, .d (.int .i64 a), .d (.int .i64 b) => some (vb (decide (a = b)))
  | .neq, .d (.int .i64 a), .d (.int .i64 b) => some (vb (!decide (a = b)))
  | _, _, _ => none
def lenF (tab : List (Nat × Ty)) (t : Nat) (v : V) : Option V :=
  match lk tab t with
  | some ty => match ty.d, v with
    | .slice _, .d (.lst n _) => some (vi n)
    | .slice _, .d .nsl => some (vi 0)
    | .slice _, .sl _ _ _ n => some (vi n)
    | .string, .d (.str b) => some (vi b.size)
    | _, _ => none
  | none => none
/-- What an operation yields, if its operands' forms tell it. -/
def yieldF (tab : List (Nat × Ty)) (s : Slots) (b : Heap) : Op → Option V
  | .move x => evO s x
  | .assign x => evO s x
  | .load t x => match evO s x with | some v => loadF tab b t v | none => none
  | .fieldAddr t x i => match evO s x with | some v => fieldAddrF tab t i v | none => none
  | .field t x i => match evO s x with | some v => fieldF tab t i v | none => none
  | .binOp op _ x y _ => match evO s x, evO s y with | some v, some u => binF op v u | _, _ => none
  | .unOp .not _ x => match evO s x with | some (.d (.bool c)) => some (vb (!c)) | _ => none
  | .extract x i => match evO s x with | some (.tup vs) => getN vs i | _ => none
  | .call { callee := .builtin .len, args := ⟨[x]⟩, argTypes := ⟨t :: _⟩ } => match evO s x with | some v => lenF tab t v | none => none
  | _ => none

section
variable {E : Env} {k B : Nat} {s s' : Slots} {h h' : Hp} {Q Q' : Post} {o : Oper} {v : V} {d : Nat} {ops : Array Oper} {rest : List Oper} {ρ : Bool}
theorem loadF_ok {t : TypeId} {x : Operand} {u : V} (ho : o.op = .load t x) (hx : evO s x = some u) (h1 : loadF E.tab h.b t u = some v) : Yl true E k B s h o v := by
  unfold loadF at h1
  split at h1
  · split at h1
    · rename_i ty cs ht hb
      split at h1
      · rename_i r hr
        split at h1
        · rename_i l hl
          obtain ⟨e1, _⟩ := dropN_ok hr
          obtain ⟨e2, e3⟩ := takeN_ok hl
          rw [nsize_eq] at e2 e3
          obtain ⟨td, tz, tb, tr⟩ := ty
          rw [← mkV_ok h1]
          exact Yl.load ho ht hx hb (by rw [e1]; exact e2) (by rw [e3]; exact Nat.beq_refl _)
        · cases h1
      · cases h1
    · rename_i ty cs ht hb
      split at h1
      · rename_i r hr
        split at h1
        · rename_i l hl
          obtain ⟨e1, _⟩ := dropN_ok hr
          obtain ⟨e2, e3⟩ := takeN_ok hl
          rw [nsize_eq] at e2 e3
          obtain ⟨td, tz, tb, tr⟩ := ty
          rw [← mkV_ok h1, mapD_eq]
          exact Yl.loadD ho ht hx hb (by rw [e1]; exact e2) (by rw [e3]; exact Nat.beq_refl _)
        · cases h1
      · cases h1
    · cases h1
  · split at h1
    · rename_i ty ht
      split at h1
      · rename_i l hl
        obtain ⟨e2, e3⟩ := takeN_ok hl
        rw [nsize_eq] at e2 e3
        obtain ⟨td, tz, tb, tr⟩ := ty
        rw [← mkV_ok h1, mapD_eq]
        exact Yl.loadL ho ht hx e2 (by rw [e3]; exact Nat.beq_refl _)
      · cases h1
    · cases h1
  · cases h1
theorem fieldsOf_ok {d : TypeDesc} {l : List Field} (h : fieldsOf d = some l) : ∃ fs : Array Field, d = .struct fs ∧ fs.toList = l := by
  cases d <;> simp [fieldsOf] at h
  exact ⟨_, rfl, h⟩
theorem fieldAddrF_ok {t : TypeId} {i : Nat} {x : Operand} {u : V} (ho : o.op = .fieldAddr t x i) (hx : evO s x = some u) (h1 : fieldAddrF E.tab t i u = some v) : Yl ρ E k B s h o v := by
  unfold fieldAddrF at h1
  split at h1
  · rename_i ty ht
    split at h1
    · rename_i fs hfs
      obtain ⟨fa, e1, e2⟩ := fieldsOf_ok hfs
      split at h1
      · rename_i f hf
        rw [getN_eq] at hf
        have hf' : fa[i]? = some f := by rw [← Array.getElem?_toList, e2]; exact hf
        split at h1
        · rename_i tf htf
          obtain ⟨td, tz, tb, tr⟩ := ty
          obtain ⟨fd, fz, fb, fr⟩ := tf
          dsimp only at *
          split at h1
          · cases h1
          · have hz : Nat.beq (Nat.succ ‹Nat›) 0 = false := rfl
            split at h1
            · injection h1 with h1; subst h1
              exact Yl.fieldAddr ho ht e1 hf' htf hz hx
            · split at h1
              · rename_i r hr
                injection h1 with h1; subst h1
                obtain ⟨e3, _⟩ := dropN_ok hr
                rw [← e3]
                exact Yl.fieldAddrL ho ht e1 hf' htf hz hx
              · cases h1
            · cases h1
        · cases h1
      · cases h1
    · cases h1
  · cases h1
theorem fieldF_ok {t : TypeId} {i : Nat} {x : Operand} {u : V} (ho : o.op = .field t x i) (hx : evO s x = some u) (h1 : fieldF E.tab t i u = some v) : Yl ρ E k B s h o v := by
  unfold fieldF at h1
  split at h1
  · rename_i ty ht
    split at h1
    · rename_i fs hfs
      obtain ⟨fa, e1, e2⟩ := fieldsOf_ok hfs
      split at h1
      · rename_i f hf
        rw [getN_eq] at hf
        have hf' : fa[i]? = some f := by rw [← Array.getElem?_toList, e2]; exact hf
        split at h1
        · rename_i tf htf
          obtain ⟨td, tz, tb, tr⟩ := ty
          obtain ⟨fd, fz, fb, fr⟩ := tf
          dsimp only at *
          split at h1
          · cases h1
          · rename_i n hn
            rw [nsize_eq] at hn
            split at h1
            · split at h1
              · rename_i r hr
                split at h1
                · rename_i l hl
                  obtain ⟨e3, _⟩ := dropN_ok hr
                  obtain ⟨e4, e5⟩ := takeN_ok hl
                  have hn' : n + 1 = bif aggD fd then fz else 1 := hn.symm
                  rw [hn'] at e4 e5
                  rw [← mkV_ok h1]
                  exact Yl.field ho ht e1 hf' htf (by rw [hn]; rfl) hx (by rw [e3]; exact e4) (by rw [e5]; exact Nat.beq_refl _)
                · cases h1
              · cases h1
            · cases h1
        · cases h1
      · cases h1
    · cases h1
  · cases h1
theorem binF_ok {op : BinOp} {t t2 : TypeId} {x y : Operand} {a b : V} (ho : o.op = .binOp op t x y t2) (hx : evO s x = some a) (hy : evO s y = some b) (h1 : binF op a b = some v) : Yl ρ E k B s h o v := by
  unfold binF at h1
  split at h1 <;> first
    | (injection h1 with h1; subst h1; first | exact Yl.lss ho hx hy | exact Yl.leq ho hx hy | exact Yl.gtr ho hx hy | exact Yl.geq ho hx hy | exact Yl.eql ho hx hy | exact Yl.neq ho hx hy)
    | cases h1
theorem lenF_ok {t : TypeId} {x : Operand} {u : V} {ats : Array TypeId} (ho : o.op = .call { callee := .builtin .len, args := #[x], argTypes := ats }) (ha : ats[0]? = some t) (hx : evO s x = some u) (h1 : lenF E.tab t u = some v) : Yl ρ E k B s h o v := by
  unfold lenF at h1
  split at h1
  · rename_i ty ht
    obtain ⟨td, tz, tb, tr⟩ := ty
    dsimp only at h1
    split at h1
    · injection h1 with h1; subst h1; exact Yl.lenL ho ha ht rfl hx
    · injection h1 with h1; subst h1; exact Yl.lenN ho ha ht rfl hx
    · injection h1 with h1; subst h1; exact Yl.lenS ho ha ht rfl hx
    · injection h1 with h1; subst h1; exact Yl.lenStr ho ha ht rfl hx
    · cases h1
  · cases h1
theorem yieldF_ok (h1 : yieldF E.tab s h.b o.op = some v) : Yl true E k B s h o v := by
  generalize ho : o.op = p at h1
  unfold yieldF at h1
  split at h1
  · exact Yl.move ho h1
  · exact Yl.assign ho h1
  · split at h1
    · rename_i hx; exact loadF_ok ho hx h1
    · cases h1
  · split at h1
    · rename_i hx; exact fieldAddrF_ok ho hx h1
    · cases h1
  · split at h1
    · rename_i hx; exact fieldF_ok ho hx h1
    · cases h1
  · split at h1
    · rename_i hx hy; exact binF_ok ho hx hy h1
    · cases h1
  · split at h1
    · rename_i hx; injection h1 with h1; subst h1; exact Yl.not ho hx
    · cases h1
  · split at h1
    · rename_i hx; rw [getN_eq] at h1; exact Yl.extract ho hx h1
    · cases h1
  · split at h1
    · rename_i hx; exact lenF_ok ho (by simp) hx h1
    · cases h1
  · cases h1
/-- One operation, or none. -/
def stepF (tab : List (Nat × Ty)) (k : Nat) (o : Oper) (s : Slots) (b : Heap) : Option Slots :=
  match o.guard, o.dst with
  | none, some d => match Nat.blt d k with
    | true => match yieldF tab s b o.op with
      | some v => some ((d, v) :: s)
      | none => none
    | false => none
  | _, _ => none
/-- As many as there are. -/
def runF (tab : List (Nat × Ty)) (k : Nat) (b : Heap) : List Oper → Slots → List Oper × Slots
  | [], s => ([], s)
  | o :: r, s => match stepF tab k o s b with
    | some s' => runF tab k b r s'
    | none => (o :: r, s)
theorem TO.run (l : List Oper) {l' : List Oper} {s' : Slots} (hr : runF E.tab k h.b l s = (l', s')) (t : TO E k B ops l' s' h Q) : TO E k B ops l s h Q := by
  induction l generalizing s with
  | nil =>
    simp only [runF, Prod.mk.injEq] at hr
    obtain ⟨rfl, rfl⟩ := hr
    exact t
  | cons o r ih =>
    simp only [runF] at hr
    split at hr
    · rename_i s2 h2
      unfold stepF at h2
      split at h2
      · rename_i d hg hd
        split at h2
        · rename_i hk
          split at h2
          · rename_i v hv
            injection h2 with h2; subst h2
            exact TO.yl hg hd hk (yieldF_ok hv) (ih hr)
          · cases h2
        · cases h2
      · cases h2
    · simp only [Prod.mk.injEq] at hr
      obtain ⟨rfl, rfl⟩ := hr
      exact t
/-- The first one at least. -/
theorem TO.run1 {s1 : Slots} (h1 : stepF E.tab k o s h.b = some s1) {l' : List Oper} {s' : Slots} (hr : runF E.tab k h.b rest s1 = (l', s')) (t : TO E k B ops l' s' h Q) : TO E k B ops (o :: rest) s h Q := by
  refine TO.run (o :: rest) ?_ t
  simp only [runF, h1, hr]
end
end Go.Proofs.Ytmgckodihnmjoaa
