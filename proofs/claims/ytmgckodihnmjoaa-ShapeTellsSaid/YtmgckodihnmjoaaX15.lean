/-
  The reckoner: what a law is handed, as numbers, truth values and functions. Conditions: none.
-/
import Derived.Test.YtmgckodihnmjoaaX14
set_option linter.unusedVariables false
set_option linter.unusedSimpArgs false
set_option maxRecDepth 20000
namespace Go.Proofs.Ytmgckodihnmjoaa
open Go.RowKit

def Ix : Nat → Type
  | 0 => Unit
  | c + 1 => Nat × Ix c
def Fam (α : Type) : Nat → Type
  | 0 => α
  | c + 1 => Nat → Fam α c
def ap {α : Type} : (c : Nat) → Fam α c → Ix c → α
  | 0, a, _ => a
  | c + 1, f, (i, r) => ap c (f i) r
def lam {α : Type} : (c : Nat) → (Ix c → α) → Fam α c
  | 0, f => f ()
  | c + 1, f => fun i => lam c (fun r => f (i, r))
theorem ap_lam {α : Type} : ∀ (c : Nat) (f : Ix c → α) (i : Ix c), ap c (lam c f) i = f i
  | 0, _, () => rfl
  | c + 1, f, (i, r) => ap_lam c (fun r => f (i, r)) r
section
variable {c : Nat}
def AllFs (p : TypeId → ((Ix c → List D) → Prop) → Prop) : List Field → ((Ix c → List D) → Prop) → Prop
  | [], P => P (fun _ => [])
  | f :: fs, P => p f.type (fun a => AllFs p fs (fun b => P (fun i => a i ++ b i)))
def AllA (p : ((Ix c → List D) → Prop) → Prop) : Nat → ((Ix c → List D) → Prop) → Prop
  | 0, P => P (fun _ => [])
  | n + 1, P => p (fun a => AllA p n (fun b => P (fun i => a i ++ b i)))
end
/-- For all data of a type. -/
def AllT (tab : List (Nat × Ty)) : (d : Nat) → (c : Nat) → TypeId → ((Ix c → List D) → Prop) → Prop
  | 0, _, _, _ => True
  | d + 1, c, t, P => match lk tab t with
    | none => True
    | some ty => match ty.d with
      | .bool => ∀ g : Fam Bool c, P (fun i => [.bool (ap c g i)])
      | .int k => ∀ g : Fam Int c, P (fun i => [.int k (ap c g i)])
      | .string => ∀ g : Fam ByteArray c, P (fun i => [.str (ap c g i)])
      | .slice e => ∀ n : Fam Nat c, AllT tab d (c + 1) e (fun F => P (fun i => [.rows (ap c n i) (sizeT tab e) (fun j => F (j, i))]))
      | .struct fs => AllFs (AllT tab d c) fs.toList P
      | .array n e => AllA (AllT tab d c e) n P
      | _ => True
/-- Less is known of data. -/
def DLe (a b : D) : Prop := ∀ U w v, DR U w a v → DR U w b v
inductive DsLe : List D → List D → Prop where
  | nil : DsLe [] []
  | cons {a b : D} {l m : List D} (h : DLe a b) (k : DsLe l m) : DsLe (a :: l) (b :: m)
theorem DLe.refl (a : D) : DLe a a := fun _ _ _ h => h
theorem DsLe.refl : ∀ l : List D, DsLe l l
  | [] => .nil
  | a :: l => .cons (.refl a) (DsLe.refl l)
theorem DsLe.of_eq {l m : List D} (h : l = m) : DsLe l m := h ▸ .refl l
theorem DsLe.app {a b c d : List D} (h : DsLe a b) (k : DsLe c d) : DsLe (a ++ c) (b ++ d) := by
  induction h with
  | nil => exact k
  | cons h _ ih => exact .cons h ih
theorem DsLe.len {l m : List D} (h : DsLe l m) : l.length = m.length := by
  induction h with
  | nil => rfl
  | cons _ _ ih => simp [ih]
theorem DsLe.get {l m : List D} (h : DsLe l m) : ∀ (j : Nat) (y : D), m[j]? = some y → ∃ x, l[j]? = some x ∧ DLe x y := by
  induction h with
  | nil => intro j y h; simp at h
  | cons h _ ih =>
    intro j y hy
    cases j with
    | zero => simp at hy; subst hy; exact ⟨_, rfl, h⟩
    | succ j => obtain ⟨x, h1, h2⟩ := ih j y (by simpa using hy); exact ⟨x, by simpa using h1, h2⟩
theorem DLe.lst {n : Nat} {l m : List D} (h : DsLe l m) : DLe (.lst n l) (.lst n m) := fun U w v k => by
  cases k with
  | lst f hk hc ha hv => exact .lst f hk hc (fun j hj => ha j (by rw [h.len]; exact hj)) (fun j y hy => by
      obtain ⟨x, h1, h2⟩ := h.get j y hy
      exact h2 _ _ _ (hv j x h1))
theorem flatN_le {n : Nat} {f g : Nat → List D} (h : ∀ i, i < n → DsLe (f i) (g i)) : DsLe (flatN n f) (flatN n g) := by
  induction n with
  | zero => exact .nil
  | succ n ih => rw [flatN_last, flatN_last]; exact (ih fun i hi => h i (by omega)).app (h n (by omega))
theorem flatten_flatN (l : List (List D)) : l.flatten = flatN l.length (fun j => l.getD j []) := by
  induction l with
  | nil => rfl
  | cons x l ih => rw [List.length_cons, flatN_succ, List.flatten_cons, ih]; rfl
theorem DLe.rows {e : Nat} {l : List (List D)} {f : Nat → List D} (h : ∀ i, i < l.length → DsLe (l.getD i []) (f i)) (hl : ∀ x ∈ l, x.length = e) : DLe (.lst l.length l.flatten) (.rows l.length e f) := fun U w v k => by
  refine .rows (fun i hi => ?_) ?_
  · rw [← (h i hi).len, List.getD_eq_getElem?_getD, List.getElem?_eq_getElem hi]; exact hl _ (List.getElem_mem hi)
  · rw [flatten_flatN] at k
    exact DLe.lst (flatN_le h) _ _ _ k
theorem fs_len {tab : List (Nat × Ty)} {d : Nat} (hp : ∀ t cs, okT tab d t = true → OfT tab d t cs → cs.length = sizeT tab t) : ∀ (fs : List Field) (o z : Nat) (cs : List D), okFs tab (okT tab d) fs o z = true → OfFs (OfT tab d) fs cs → o + cs.length = z
  | [], o, z, cs, h, k => by
    simp only [OfFs] at k; subst k
    simpa [okFs] using h
  | f :: fs, o, z, cs, h, k => by
    obtain ⟨a, b, rfl, h1, h2⟩ := k
    simp only [okFs, Bool.and_eq_true, beq_iff_eq] at h
    have := fs_len hp fs _ z b h.2 h2
    have := hp _ a h.1.2 h1
    rw [List.length_append]; omega
theorem OfT_len {tab : List (Nat × Ty)} : ∀ (d : Nat) (t : TypeId) (cs : List D), okT tab d t = true → OfT tab d t cs → cs.length = sizeT tab t
  | 0, t, cs, h, _ => by simp [okT] at h
  | d + 1, t, cs, h, k => by
    unfold okT at h
    unfold OfT at k
    unfold sizeT
    split at h
    · cases h
    · rename_i ty hl
      rw [hl] at k
      simp only [hl] at k ⊢
      cases hd : ty.d <;> simp only [hd] at h k <;> try (cases h; done)
      case bool => obtain ⟨b, rfl⟩ := k; simpa using (beq_iff_eq.1 h).symm
      case int => obtain ⟨b, rfl, _⟩ := k; simpa using (beq_iff_eq.1 h).symm
      case string => obtain ⟨b, rfl, _⟩ := k; simpa using (beq_iff_eq.1 h).symm
      case slice e =>
        obtain ⟨l, _, rfl, _⟩ := k
        simp only [Bool.and_eq_true, beq_iff_eq] at h
        simpa using h.1.symm
      case struct fs =>
        have := fs_len (fun t cs => OfT_len d t cs) _ _ _ _ h k
        omega
      case array n e =>
        obtain ⟨l, rfl, rfl, hx⟩ := k
        simp only [Bool.and_eq_true, beq_iff_eq] at h
        rw [h.2, flatten_len l (fun x hm => OfT_len d e x h.1 (hx x hm))]
open Classical in
theorem all_fs {tab : List (Nat × Ty)} {d c : Nat} (hp : ∀ t (Dm : Ix c → Prop) (F : Ix c → List D) P, okT tab d t = true → (∀ i, Dm i → OfT tab d t (F i)) → AllT tab d c t P → ∃ F', (∀ i, Dm i → DsLe (F i) (F' i)) ∧ P F') :
    ∀ (fs : List Field) (o z : Nat) (Dm : Ix c → Prop) (F : Ix c → List D) (P : (Ix c → List D) → Prop), okFs tab (okT tab d) fs o z = true → (∀ i, Dm i → OfFs (OfT tab d) fs (F i)) → AllFs (AllT tab d c) fs P → ∃ F', (∀ i, Dm i → DsLe (F i) (F' i)) ∧ P F'
  | [], o, z, Dm, F, P, hok, h, k => ⟨fun _ => [], fun i hi => .of_eq (h i hi), k⟩
  | f :: fs, o, z, Dm, F, P, hok, h, k => by
    simp only [okFs, Bool.and_eq_true, beq_iff_eq] at hok
    let A : Ix c → List D := fun i => if hi : Dm i then (h i hi).choose else []
    let B : Ix c → List D := fun i => if hi : Dm i then (h i hi).choose_spec.choose else []
    have hA : ∀ i (hi : Dm i), F i = A i ++ B i ∧ OfT tab d f.type (A i) ∧ OfFs (OfT tab d) fs (B i) := fun i hi => by
      have := (h i hi).choose_spec.choose_spec
      simpa only [A, B, dif_pos hi] using this
    obtain ⟨A', h1, h2⟩ := hp f.type Dm A _ hok.1.2 (fun i hi => (hA i hi).2.1) k
    obtain ⟨B', h3, h4⟩ := all_fs hp fs _ z Dm B _ hok.2 (fun i hi => (hA i hi).2.2) h2
    exact ⟨_, fun i hi => by rw [(hA i hi).1]; exact (h1 i hi).app (h3 i hi), h4⟩
theorem all_a {tab : List (Nat × Ty)} {d c : Nat} {e : TypeId} (hok : okT tab d e = true) (hp : ∀ t (Dm : Ix c → Prop) (F : Ix c → List D) P, okT tab d t = true → (∀ i, Dm i → OfT tab d t (F i)) → AllT tab d c t P → ∃ F', (∀ i, Dm i → DsLe (F i) (F' i)) ∧ P F') :
    ∀ (n : Nat) (Dm : Ix c → Prop) (L : Ix c → List (List D)) (P : (Ix c → List D) → Prop), (∀ i, Dm i → (L i).length = n ∧ ∀ x ∈ L i, OfT tab d e x) → AllA (AllT tab d c e) n P → ∃ F', (∀ i, Dm i → DsLe (L i).flatten (F' i)) ∧ P F'
  | 0, Dm, L, P, h, k => ⟨fun _ => [], fun i hi => by rw [List.length_eq_zero_iff.1 (h i hi).1]; exact .nil, k⟩
  | n + 1, Dm, L, P, h, k => by
    have hL : ∀ i, Dm i → L i = (L i).headD [] :: (L i).tail := fun i hi => by
      have := (h i hi).1
      cases hl : L i with
      | nil => rw [hl] at this; simp at this
      | cons a r => rfl
    obtain ⟨A', h1, h2⟩ := hp e Dm (fun i => (L i).headD []) _ hok (fun i hi => (h i hi).2 _ (by rw [hL i hi]; simp)) k
    obtain ⟨B', h3, h4⟩ := all_a hok hp n Dm (fun i => (L i).tail) _ (fun i hi => ⟨by rw [List.length_tail, (h i hi).1]; rfl, fun x hx => (h i hi).2 x (by rw [hL i hi]; exact List.mem_cons_of_mem _ hx)⟩) h2
    exact ⟨_, fun i hi => by rw [hL i hi, List.flatten_cons]; exact (h1 i hi).app (h3 i hi), h4⟩
open Classical in
theorem all_t {tab : List (Nat × Ty)} : ∀ (d c : Nat) (t : TypeId) (Dm : Ix c → Prop) (F : Ix c → List D) (P : (Ix c → List D) → Prop), okT tab d t = true → (∀ i, Dm i → OfT tab d t (F i)) → AllT tab d c t P → ∃ F', (∀ i, Dm i → DsLe (F i) (F' i)) ∧ P F'
  | 0, c, t, Dm, F, P, h, _, _ => by simp [okT] at h
  | d + 1, c, t, Dm, F, P, hok, h, k => by
    unfold okT at hok
    unfold AllT at k
    split at hok
    · cases hok
    · rename_i ty hl
      simp only [OfT, hl] at h k
      cases hd : ty.d <;> simp only [hd] at hok h k <;> try (cases hok; done)
      case bool =>
        let g : Ix c → Bool := fun i => if hi : Dm i then (h i hi).choose else false
        refine ⟨_, fun i hi => ?_, k (lam c g)⟩
        rw [ap_lam]
        simp only [g, dif_pos hi]
        exact .of_eq (h i hi).choose_spec
      case int q =>
        let g : Ix c → Int := fun i => if hi : Dm i then (h i hi).choose else 0
        refine ⟨_, fun i hi => ?_, k (lam c g)⟩
        rw [ap_lam]
        simp only [g, dif_pos hi]
        exact .of_eq (h i hi).choose_spec.1
      case string =>
        let g : Ix c → ByteArray := fun i => if hi : Dm i then (h i hi).choose else ByteArray.empty
        refine ⟨_, fun i hi => ?_, k (lam c g)⟩
        rw [ap_lam]
        simp only [g, dif_pos hi]
        exact .of_eq (h i hi).choose_spec.1
      case slice e =>
        simp only [Bool.and_eq_true, beq_iff_eq] at hok
        let L : Ix c → List (List D) := fun i => if hi : Dm i then (h i hi).choose else []
        have hL : ∀ i, Dm i → F i = [.lst (L i).length (L i).flatten] ∧ ∀ x ∈ L i, OfT tab d e x := fun i hi => by
          have := (h i hi).choose_spec
          simp only [L, dif_pos hi]
          exact this.2
        obtain ⟨G, h1, h2⟩ := all_t d (c + 1) e (fun x => Dm x.2 ∧ x.1 < (L x.2).length) (fun x => (L x.2).getD x.1 []) _ hok.2.1 (fun x hx => by
          rw [List.getD_eq_getElem?_getD, List.getElem?_eq_getElem hx.2]; exact (hL _ hx.1).2 _ (List.getElem_mem hx.2)) (k (lam c fun i => (L i).length))
        refine ⟨_, fun i hi => ?_, h2⟩
        rw [ap_lam, (hL i hi).1]
        exact .cons (DLe.rows (fun j hj => h1 (j, i) ⟨hi, hj⟩) (fun x hx => OfT_len d e x hok.2.1 ((hL i hi).2 x hx))) .nil
      case struct fs => exact all_fs (fun t => all_t d c t) _ _ _ Dm F P hok h k
      case array n e =>
        simp only [Bool.and_eq_true, beq_iff_eq] at hok
        let L : Ix c → List (List D) := fun i => if hi : Dm i then (h i hi).choose else []
        have hL : ∀ i, Dm i → (L i).length = n ∧ F i = (L i).flatten ∧ ∀ x ∈ L i, OfT tab d e x := fun i hi => by
          have := (h i hi).choose_spec
          simpa only [L, dif_pos hi] using this
        obtain ⟨F', h1, h2⟩ := all_a hok.1 (fun t => all_t d c t) n Dm L P (fun i hi => ⟨(hL i hi).1, (hL i hi).2.2⟩) k
        exact ⟨F', fun i hi => by rw [(hL i hi).2.1]; exact h1 i hi, h2⟩
/-- For all values of a type. -/
def AllV (tab : List (Nat × Ty)) (d : Nat) (t : TypeId) (P : V → Prop) : Prop := match lk tab t with
  | none => True
  | some ty => match ty.d with
    | .struct _ => AllT tab d 0 t (fun F => P (.agg ((F ()).map .d)))
    | .array _ _ => AllT tab d 0 t (fun F => P (.agg ((F ()).map .d)))
    | _ => AllT tab d 0 t (fun F => P (match F () with | [c] => .d c | _ => .un))
def AllVs (tab : List (Nat × Ty)) (d : Nat) : List TypeId → (List V → Prop) → Prop
  | [], P => P []
  | t :: ts, P => AllV tab d t (fun x => AllVs tab d ts (fun r => P (x :: r)))
theorem DsLe.llE {l m : List D} (h : DsLe l m) : LLe (l.map .d) (m.map .d) := by
  induction h with
  | nil => exact .nil
  | cons h _ ih => exact .cons (fun U q n w v k => by cases k with | d k => exact .d (h _ _ _ k)) ih
theorem all_v {tab : List (Nat × Ty)} {d : Nat} {t : TypeId} {x : V} {P : V → Prop} (hok : okT tab d t = true) (h : OfV tab d t x) (k : AllV tab d t P) : ∃ y, VLe x y ∧ P y := by
  unfold OfV at h
  unfold AllV at k
  split at h
  · cases h
  · rename_i ty hl
    simp only [hl] at k
    have agg : (∃ ds, x = .agg (ds.map .d) ∧ OfT tab d t ds) → AllT tab d 0 t (fun F => P (.agg ((F ()).map .d))) → ∃ y, VLe x y ∧ P y := fun ⟨ds, e, h⟩ k => by
      obtain ⟨F', h1, h2⟩ := all_t d 0 t (fun _ => True) (fun _ => ds) _ hok (fun _ _ => h) k
      exact ⟨_, by rw [e]; exact VLe.agg (h1 () trivial).llE, h2⟩
    have one : (∃ c, x = .d c ∧ OfT tab d t [c]) → AllT tab d 0 t (fun F => P (match F () with | [c] => .d c | _ => .un)) → ∃ y, VLe x y ∧ P y := fun ⟨c, e, h⟩ k => by
      obtain ⟨F', h1, h2⟩ := all_t d 0 t (fun _ => True) (fun _ => [c]) _ hok (fun _ _ => h) k
      have h3 := h1 () trivial
      generalize F' () = l at h3 h2
      cases h3 with
      | cons h4 h5 => cases h5; exact ⟨_, by rw [e]; exact (fun U q n w v k => by cases k with | d k => exact .d (h4 _ _ _ k)), h2⟩
    cases hd : ty.d <;> simp only [hd] at h k <;> first | exact agg h k | exact one h k
theorem all_vs {tab : List (Nat × Ty)} {d : Nat} : ∀ {ts : List TypeId} {xs : List V} {P : List V → Prop}, okTs tab d ts = true → OfVs tab d ts xs → AllVs tab d ts P → ∃ ys, AL xs ys ∧ P ys
  | [], xs, P, hok, h, k => ⟨[], by rw [show xs = [] from h]; exact .nil, k⟩
  | t :: ts, xs, P, hok, h, k => by
    obtain ⟨x, r, rfl, h1, h2⟩ := h
    have hok' : (okT tab d t && okTs tab d ts) = true := hok
    rw [Bool.and_eq_true] at hok'
    obtain ⟨y, h3, h4⟩ := all_v hok'.1 h1 k
    obtain ⟨ys, h5, h6⟩ := all_vs hok'.2 h2 h4
    exact ⟨y :: ys, .cons h3 h5, h6⟩
theorem Call.leA {E : Env} {f : FuncId} {xs ys : List V} {h : Hp} {Q : V → Hp → Prop} (l : AL xs ys) (c : Call E f ys h Q) : Call E f xs h Q := fun U m w vs hH hV => c U m w vs hH (hV.le l)
/-- More truth values are plain. -/
def FnI.more (I : FnI) (kn : List Nat) : FnI := ⟨I.nt, I.res, I.code, ⟨I.F.live, I.F.ord, I.F.hd, I.F.wr, I.F.unr, I.F.lit, kn ++ I.F.kn⟩, I.imp⟩
theorem FnOk.more {E : Env} {f : FuncId} {I : FnI} (h : FnOk E f I) (kn : List Nat) : FnOk E f (I.more kn) := ⟨h.fn, h.en, h.ord⟩
/-- Slices that are appended to stay cell by cell. -/
def FnI.hold (I : FnI) (hd : List Nat) : FnI := ⟨I.nt, I.res, I.code, ⟨I.F.live, I.F.ord, hd ++ I.F.hd, I.F.wr, I.F.unr, I.F.lit, I.F.kn⟩, I.imp⟩
theorem FnOk.hold {E : Env} {f : FuncId} {I : FnI} (h : FnOk E f I) (hd : List Nat) : FnOk E f (I.hold hd) := ⟨h.fn, h.en, h.ord⟩
/-- A table with a function in other words. -/
theorem FnsOk.in_ {E : Env} {f : Nat} {I : FnI} {fns : List (Nat × FnI)} (h : FnOk E f I) (k : FnsOk E fns) : FnsOk E ((f, I) :: fns) := FnsOk.cons h k
/-- So many rounds of a loop, from a symbolic state on. -/
structure TSR (E : Env) (k B : Nat) (c : Code) (n : Nat) (s : Slots) (h : Hp) (Q : Post) : Prop where
  t : TR E k B c n s h Q
theorem TSR.succ {E : Env} {k B n : Nat} {c : Code} {s : Slots} {h : Hp} {Q : Post} (t : TS E k B c s h (thenP (fun s' h' => TSR E k B c n s' h' Q) Q)) : TSR E k B c (n + 1) s h Q :=
  ⟨TR.succ (T.mono t.t fun e s' h' q => by
    cases e with
    | normal => exact TSR.t q
    | _ => exact q)⟩
theorem TS.rounds {E : Env} {k B : Nat} {code : Code} {π : List Bool} {s : Slots} {h : Hp} {Q : Post} (n : Nat) (hc : isLoop (sub code π) = true) (t : TSR E k B (sub code (π ++ [false])) n s h Q) : TS E k B (sub code π) s h Q := by
  have hb : ∃ c, sub code π = .loop c ∧ sub code (π ++ [false]) = c := by
    rw [sub_app]
    cases hs : sub code π <;> rw [hs] at hc <;> first | exact ⟨_, rfl, rfl⟩ | cases hc
  obtain ⟨c, h1, h2⟩ := hb
  rw [h2] at t
  rw [h1]
  exact ⟨T.rounds n t.t⟩
theorem TSR.noPanic {E : Env} {k B n : Nat} {c : Code} {Q : Post} (h : NoPanic Q) : NoPanic (thenP (fun s' h' => TSR E k B c n s' h' Q) Q) := NoPanic.thenP h
/-- A law, for all it may be handed. -/
theorem law_all {E : Env} {f : FuncId} {d : Nat} {ts : List TypeId} {P' : Prop} (hok : okTs E.tab d ts = true) (e : AllVs E.tab d ts (fun xs => Fn E f xs (vb true)) = P') (h : P') : ∀ xs, OfVs E.tab d ts xs → Call E f xs ⟨0, []⟩ (fun r _ => r = vb true) := fun xs hx => by
  obtain ⟨ys, h1, h2⟩ := all_vs hok hx (e ▸ h)
  exact Call.leA h1 h2.2.2
end Go.Proofs.Ytmgckodihnmjoaa
