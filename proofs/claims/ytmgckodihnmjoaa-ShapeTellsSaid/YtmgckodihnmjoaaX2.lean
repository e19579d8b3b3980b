/-
  Values, two of them in one: one of them, as a truth value tells. Conditions: none.
-/
import Derived.Test.YtmgckodihnmjoaaX1
set_option linter.unusedVariables false
set_option linter.unusedSimpArgs false
set_option maxRecDepth 20000
namespace Go.Proofs.Ytmgckodihnmjoaa
open Go.RowKit

def selC (b : Bool) (x y : D) : D := match x with
  | .bool p => match y with
    | .bool q => .bool (cond b p q)
    | _ => cond b x y
  | .int k i => match y with
    | .int k' j => match sameK k k' with
      | true => .int k (cond b i j)
      | false => cond b x y
    | _ => cond b x y
  | .str p => match y with
    | .str q => .str (cond b p q)
    | _ => cond b x y
  | _ => cond b x y
theorem selC_eq (b : Bool) (x y : D) : selC b x y = cond b x y := by
  unfold selC
  split
  · split
    · cases b <;> rfl
    · rfl
  · split
    · split
      · rename_i h; have := sameK_eq h; subst this; cases b <;> rfl
      · rfl
    · rfl
  · split
    · cases b <;> rfl
    · rfl
  · rfl
noncomputable def selL (b : Bool) (l : List D) : List D → List D :=
  List.rec (motive := fun _ => List D → List D) (fun l' => match l' with | [] => [] | y :: r => cond b [] (y :: r)) (fun x r ih l' => match l' with | [] => cond b (x :: r) [] | y :: r' => selC b x y :: ih r') l
theorem selL_eq (b : Bool) : ∀ (l l' : List D), selL b l l' = cond b l l'
  | [], [] => by cases b <;> rfl
  | [], y :: r => rfl
  | x :: r, [] => rfl
  | x :: r, y :: r' => by
    show selC b x y :: selL b r r' = _
    rw [selC_eq, selL_eq b r r']; cases b <;> rfl
/-- One of two lengths. -/
def selN (b : Bool) (n m : Nat) : Nat := match Nat.beq n m with | true => n | false => cond b n m
theorem selN_eq (b : Bool) (n m : Nat) : selN b n m = cond b n m := by
  unfold selN
  split
  · rename_i h; have := Nat.eq_of_beq_eq_true h; subst this; cases b <;> rfl
  · rfl
/-- One of two data. -/
noncomputable def selD (b : Bool) (x y : D) : D := match x with
  | .rows n e f => match y with
    | .rows n' e' f' => match Nat.beq e e' with
      | true => .rows (selN b n n') e (fun i => selL b (f i) (f' i))
      | false => cond b x y
    | .nsl => .rows (cond b n 0) e f
    | _ => cond b x y
  | .lst n cs => match y with
    | .lst n' cs' => .lst (selN b n n') (selL b cs cs')
    | _ => cond b x y
  | .nsl => match y with
    | .rows n e f => .rows (cond b 0 n) e f
    | .nsl => .nsl
    | _ => cond b x y
  | .lptr cs => match y with
    | .lptr cs' => .lptr (selL b cs cs')
    | _ => cond b x y
  | .nilp => match y with
    | .nilp => .nilp
    | _ => cond b x y
  | _ => selC b x y
theorem selD_le (b : Bool) (x y : D) : VLe (.d (cond b x y)) (.d (selD b x y)) := by
  unfold selD
  split
  · split
    · split
      · rename_i h; have := Nat.eq_of_beq_eq_true h; subst this
        refine VLe.of_eq ?_
        simp only [selL_eq, selN_eq]
        cases b <;> rfl
      · exact .refl _
    · cases b
      · exact VLe.nilR _ _
      · exact .refl _
    · exact .refl _
  · split
    · refine VLe.of_eq ?_
      simp only [selL_eq, selN_eq]
      cases b <;> rfl
    · exact .refl _
  · split
    · cases b
      · exact .refl _
      · exact VLe.nilR _ _
    · cases b <;> exact .refl _
    · exact .refl _
  · split
    · refine VLe.of_eq ?_
      simp only [selL_eq, selN_eq]
      cases b <;> rfl
    · exact .refl _
  · split
    · cases b <;> exact .refl _
    · exact .refl _
  · rw [selC_eq]; exact .refl _
mutual
/-- One of two values. -/
noncomputable def selV (b : Bool) : V → V → V
  | .d x, y => match y with
    | .d x' => .d (selD b x x')
    | y => cond b (.d x) y
  | .agg l, y => match y with
    | .agg l' => .agg (selVs b l l')
    | y => cond b (.agg l) y
  | .tup l, y => match y with
    | .tup l' => .tup (selVs b l l')
    | y => cond b (.tup l) y
  | .sl e id off n, y => match y with
    | .sl e' id' off' n' => match Nat.beq e e' && Nat.beq id id' with
      | true => .sl e id (selN b off off') (selN b n n')
      | false => cond b (.sl e id off n) (.sl e' id' off' n')
    | y => cond b (.sl e id off n) y
  | .ptr id off, y => match y with
    | .ptr id' off' => match Nat.beq id id' with
      | true => .ptr id (selN b off off')
      | false => cond b (.ptr id off) (.ptr id' off')
    | y => cond b (.ptr id off) y
  | .el e id i r, y => match y with
    | .el e' id' i' r' => match Nat.beq e e' && Nat.beq id id' with
      | true => .el e id (selN b i i') (selN b r r')
      | false => cond b (.el e id i r) (.el e' id' i' r')
    | y => cond b (.el e id i r) y
  | .map id, y => match y with
    | .map id' => match Nat.beq id id' with
      | true => .map id
      | false => cond b (.map id) (.map id')
    | y => cond b (.map id) y
  | .fn f a c, y => match y with
    | .fn f' a' c' => match Nat.beq f f' with
      | true => .fn f (selVs b a a') (selVs b c c')
      | false => cond b (.fn f a c) (.fn f' a' c')
    | y => cond b (.fn f a c) y
  | .ifc t v, y => cond b (.ifc t v) y
  | .un, y => cond b .un y
noncomputable def selVs (b : Bool) : List V → List V → List V
  | [], l => match l with
    | [] => []
    | y :: r => cond b [] (y :: r)
  | x :: r, l => match l with
    | y :: r' => selV b x y :: selVs b r r'
    | [] => cond b (x :: r) []
end
theorem and_split {a b : Bool} (h : (a && b) = true) : a = true ∧ b = true := by cases a <;> cases b <;> simp_all
mutual
theorem selV_le (b : Bool) : ∀ x y : V, VLe (cond b x y) (selV b x y)
  | .d x, y => by
    cases y with
    | d x' =>
      have h : (cond b (V.d x) (V.d x')) = .d (cond b x x') := by cases b <;> rfl
      unfold selV
      rw [h]; exact selD_le b x x'
    | _ => unfold selV; exact .refl _
  | .agg l, y => by
    cases y with
    | agg l' =>
      have h : (cond b (V.agg l) (V.agg l')) = .agg (cond b l l') := by cases b <;> rfl
      unfold selV
      rw [h]; exact VLe.agg (selVs_le b l l')
    | _ => unfold selV; exact .refl _
  | .tup l, y => by
    cases y with
    | tup l' =>
      have h : (cond b (V.tup l) (V.tup l')) = .tup (cond b l l') := by cases b <;> rfl
      unfold selV
      rw [h]; exact VLe.tup (selVs_le b l l')
    | _ => unfold selV; exact .refl _
  | .sl e id off n, y => by
    cases y with
    | sl e' id' off' n' =>
      unfold selV
      dsimp only
      split
      · rename_i h
        obtain ⟨h1, h2⟩ := and_split h
        have h1 := Nat.eq_of_beq_eq_true h1; have h2 := Nat.eq_of_beq_eq_true h2
        subst h1; subst h2
        simp only [selN_eq]
        cases b <;> exact .refl _
      · exact .refl _
    | _ => unfold selV; exact .refl _
  | .ptr id off, y => by
    cases y with
    | ptr id' off' =>
      unfold selV
      dsimp only
      split
      · rename_i h
        have h1 := Nat.eq_of_beq_eq_true h
        subst h1
        simp only [selN_eq]
        cases b <;> exact .refl _
      · exact .refl _
    | _ => unfold selV; exact .refl _
  | .el e id off n, y => by
    cases y with
    | el e' id' off' n' =>
      unfold selV
      dsimp only
      split
      · rename_i h
        obtain ⟨h1, h2⟩ := and_split h
        have h1 := Nat.eq_of_beq_eq_true h1; have h2 := Nat.eq_of_beq_eq_true h2
        subst h1; subst h2
        simp only [selN_eq]
        cases b <;> exact .refl _
      · exact .refl _
    | _ => unfold selV; exact .refl _
  | .map id, y => by
    cases y with
    | map id' =>
      unfold selV
      dsimp only
      split
      · rename_i h
        have h1 := Nat.eq_of_beq_eq_true h
        subst h1
        cases b <;> exact .refl _
      · exact .refl _
    | _ => unfold selV; exact .refl _
  | .fn f a c, y => by
    cases y with
    | fn f' a' c' =>
      unfold selV
      dsimp only
      split
      · rename_i h
        have h1 := Nat.eq_of_beq_eq_true h
        subst h1
        have h : (cond b (V.fn f a c) (V.fn f a' c')) = .fn f (cond b a a') (cond b c c') := by cases b <;> rfl
        rw [h]; exact VLe.fn (selVs_le b a a') (selVs_le b c c')
      · exact .refl _
    | _ => unfold selV; exact .refl _
  | .ifc t v, y => by unfold selV; exact .refl _
  | .un, y => by unfold selV; exact .refl _
theorem selVs_le (b : Bool) : ∀ l l' : List V, LLe (cond b l l') (selVs b l l')
  | [], l' => by
    cases l' with
    | nil => unfold selVs; cases b <;> exact .nil
    | cons => unfold selVs; exact .refl _
  | x :: r, l' => by
    cases l' with
    | nil => unfold selVs; exact .refl _
    | cons y r' =>
      have h : (cond b (x :: r) (y :: r')) = cond b x y :: cond b r r' := by cases b <;> rfl
      unfold selVs
      rw [h]; exact .cons (selV_le b x y) (selVs_le b r r')
end
theorem selV_t {b : Bool} {x y : V} (h : b = true) : VLe x (selV b x y) := by have := selV_le b x y; subst h; exact this
theorem selV_f {b : Bool} {x y : V} (h : b = false) : VLe y (selV b x y) := by have := selV_le b x y; subst h; exact this
/-- One of two frames: what both name. -/
noncomputable def selS (b : Bool) (s1 s2 : Slots) : List Nat → Slots :=
  List.rec [] (fun t _ ih => match lk s1 t with | some v1 => (match lk s2 t with | some v2 => (t, selV b v1 v2) :: ih | none => ih) | none => ih)
theorem selS_t {b : Bool} {s1 s2 : Slots} (h : b = true) (ts : List Nat) : Le s1 (selS b s1 s2 ts) := by
  induction ts with
  | nil => exact Le.nil _
  | cons t r ih =>
    show Le s1 (match lk s1 t with | some v1 => (match lk s2 t with | some v2 => (t, selV b v1 v2) :: selS b s1 s2 r | none => selS b s1 s2 r) | none => selS b s1 s2 r)
    split
    · rename_i v1 h1
      split
      · intro p hp
        rcases List.mem_cons.1 hp with rfl | hp
        · exact ⟨_, h1, selV_t h⟩
        · exact ih p hp
      · exact ih
    · exact ih
theorem selS_f {b : Bool} {s1 s2 : Slots} (h : b = false) (ts : List Nat) : Le s2 (selS b s1 s2 ts) := by
  induction ts with
  | nil => exact Le.nil _
  | cons t r ih =>
    show Le s2 (match lk s1 t with | some v1 => (match lk s2 t with | some v2 => (t, selV b v1 v2) :: selS b s1 s2 r | none => selS b s1 s2 r) | none => selS b s1 s2 r)
    split
    · rename_i v1 h1
      split
      · rename_i v2 h2
        intro p hp
        rcases List.mem_cons.1 hp with rfl | hp
        · exact ⟨_, h2, selV_f h⟩
        · exact ih p hp
      · exact ih
    · exact ih
/-- A frame's slots that are needed. -/
noncomputable def trimS (s : Slots) : List Nat → Slots :=
  List.rec [] (fun t _ ih => match lk s t with | some v => (t, v) :: ih | none => ih)
theorem trimS_le (s : Slots) (ts : List Nat) : Le s (trimS s ts) := by
  induction ts with
  | nil => exact Le.nil _
  | cons t r ih =>
    show Le s (match lk s t with | some v => (t, v) :: trimS s r | none => trimS s r)
    split
    · rename_i v h1
      exact Le.cons h1 ih
    · exact ih
end Go.Proofs.Ytmgckodihnmjoaa
