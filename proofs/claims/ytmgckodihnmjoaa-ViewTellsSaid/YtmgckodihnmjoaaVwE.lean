/-
  The law ViewLeft: what the code comes to. Conditions: none.
-/
import Derived.Test.YtmgckodihnmjoaaVwD
import Derived.Test.YtmgckodihnmjoaaVwK
set_option linter.unusedVariables false
set_option linter.unusedSimpArgs false
set_option maxRecDepth 20000
namespace Go.Proofs.Ytmgckodihnmjoaa
open Oc
set_option maxRecDepth 100000
noncomputable def ptV5 : List (Nat × (List V → Option (List Ob × V))) := (63, fun xs => match xs with
    | [] => some ([], vb true)
    | _ => none) ::
  (64, fun xs => match xs with
    | [.agg [.d (.rows n e f), .d (.int .i64 a), .d (.int .i64 b), .d (.int .i64 c), .d (.int .i64 d), .d (.int .i64 mk)], .agg [.d (.int .i64 p0), .d (.int .i64 p1), .d (.int .i64 p2), .d (.int .i64 p3), .d (.bool cl), .d (.int .i64 ly), .d (.int .i64 x0), .d (.int .i64 x1), .d (.int .i64 x2), .d (.int .i64 x3), .d (.int .i64 x4), .d (.int .i64 x5)]] => some ([.p (e = 4 ∧ okPl f)], seR n (fun i j => jD (f i) j) a b c d mk ly (nthI [x0, x1, x2, x3, x4, x5]))
    | _ => none) ::
  (67, fun xs => match xs with
    | [.agg [.d (.rows n e f), .d (.int .i64 a), .d (.int .i64 b), .d (.int .i64 c), .d (.int .i64 d), .d (.int .i64 mk)], .agg [.d (.int .i64 p0), .d (.int .i64 p1), .d (.int .i64 p2), .d (.int .i64 p3), .d (.bool cl), .d (.int .i64 ly), .d (.int .i64 x0), .d (.int .i64 x1), .d (.int .i64 x2), .d (.int .i64 x3), .d (.int .i64 x4), .d (.int .i64 x5)]] => some ([.p (e = 4 ∧ okPl f)], seR n (fun i j => jD (f i) j) a b c d mk ly (nthI [x0, x1, x2, x3, x4, x5]))
    | _ => none) ::
  (62, fun xs => match xs with
    | [.agg [.d (.int .i64 n0), .d (.int .i64 n1), .d (.int .i64 n2), .d (.int .i64 d)], .agg [.d (.int .i64 u), .d (.int .i64 v), .d (.int .i64 w)]] => some ([], .tup [vi (diV n0 n1 n2 d u v w), vi (diE n0 n1 n2 d u v w)])
    | _ => none) :: ptV4
theorem ptV5_ok : PtOk E ptV5 := by
  refine PtOk.cons ok63.en (fun args l r e hl => ?_) (PtOk.cons ok64.en (fun args l r e hl => ?_) (PtOk.cons ok67.en (fun args l r e hl => ?_) (PtOk.cons ok62.en (fun args l r e hl => ?_) (ptV4_ok))))
  · split at e
    · cases e; exact al14
    · cases e
  · split at e
    · rename_i n e' f a b c d mk p0 p1 p2 p3 cl ly x0 x1 x2 x3 x4 x5; cases e; obtain ⟨rfl, h⟩ := (obsL_cons hl).1; have := vsees_r n (fun i j => jD (f i) j) a b c d mk p0 p1 p2 p3 cl ly (nthI [x0, x1, x2, x3, x4, x5]); rw [← vw_of h] at this; exact this
    · cases e
  · split at e
    · rename_i n e' f a b c d mk p0 p1 p2 p3 cl ly x0 x1 x2 x3 x4 x5; cases e; obtain ⟨rfl, h⟩ := (obsL_cons hl).1; have := rsees_r n (fun i j => jD (f i) j) a b c d mk p0 p1 p2 p3 cl ly (nthI [x0, x1, x2, x3, x4, x5]); rw [← vw_of h] at this; exact this
    · cases e
  · split at e
    · rename_i n0 n1 n2 d u v w; cases e; exact rdist_fn ..
    · cases e
noncomputable def csV5 : Cs := csN E.tab eqs fnV none (csP ptV5) 10
theorem csV5_ok : CsOk E csV5 := csN_ok fnV_ok eqs_ok (csP_ok ptV5_ok) 10
def bhd (s : Nat → Nat → Int) (u v w : Int) (k : Nat) : Bool := match k with | 0 => false | k + 1 => bif bhd s u v w k then true else ltZ (diV (s k 0) (s k 1) (s k 2) (s k 3) u v w) 0
noncomputable def hL (n : Nat) (s : Nat → Nat → Int) (a b c d mk : Int) (i0 i1 i2 i3 : Int) (cl : Bool) (ly : Int) (x : Nat → Int) (u v w : Int) : Hp := ⟨3, [(0, some (.cells [.d (.rows n 4 fun i => [.int .i64 (s i 0), .int .i64 (s i 1), .int .i64 (s i 2), .int .i64 (s i 3)]), vi a, vi b, vi c, vi d, vi mk])), (1, some (.cells [vi i0, vi i1, vi i2, vi i3, vb cl, vi ly, vi (x 0), vi (x 1), vi (x 2), vi (x 3), vi (x 4), vi (x 5)])), (2, some (.cells [vi u, vi v, vi w]))]⟩
theorem bhd_of {s : Nat → Nat → Int} {u v w : Int} {k i : Nat} (hi : i < k) (h : diV (s i 0) (s i 1) (s i 2) (s i 3) u v w < 0) : bhd s u v w k = true := by
  induction k with
  | zero => omega
  | succ k ih =>
    show (bif bhd s u v w k then true else ltZ (diV (s k 0) (s k 1) (s k 2) (s k 3) u v w) 0) = true
    rcases Nat.lt_or_ge i k with h1 | h1
    · rw [ih h1]; rfl
    · obtain rfl : i = k := by omega
      rw [ltZ_eq, decide_eq_true h]; cases bhd s u v w i <;> rfl
theorem idxN_cases (n : Nat) (p : Nat → Bool) : (∃ i, i < n ∧ p i = true ∧ idxN n p = i) ∨ (idxN n p = -1 ∧ ∀ i, i < n → p i = false) := by
  by_cases h : ∀ i, i < n → p i = false
  · exact .inr ⟨idxN_miss h, h⟩
  · have h' : ∃ i, i < n ∧ p i = true := by
      refine Classical.byContradiction fun hn => h fun i hi => ?_
      cases hp : p i
      · rfl
      · exact absurd ⟨i, hi, hp⟩ hn
    have : ∃ i, i < n ∧ p i = true ∧ ∀ j, j < i → p j = false := by
      obtain ⟨i, hi, hp⟩ := h'
      induction i using Nat.strongRecOn with
      | ind i ih =>
        by_cases hq : ∃ j, j < i ∧ p j = true
        · obtain ⟨j, hj, hpj⟩ := hq
          exact ih j hj (by omega) hpj
        · exact ⟨i, hi, hp, fun j hj => by
            cases hpj : p j
            · rfl
            · exact absurd ⟨j, hj, hpj⟩ hq⟩
    obtain ⟨i, hi, hp, hj⟩ := this
    exact .inl ⟨i, hi, hp, idxN_hit hi hj hp⟩
theorem leZ_nat (i : Nat) : leZ 0 (i : Int) = true := by rw [leZ_eq]; exact decide_eq_true (by omega)
theorem se_err {n : Nat} {s : Nat → Nat → Int} {a b c d mk ly : Int} {x : Nat → Int} (h : seE n s a b c d mk ly x ≠ 0) : seO n s a b c d mk ly x = false := by
  unfold seE at h; unfold seO
  cases h1 : vwR n s a b c d mk
  · rfl
  cases h2 : decide (andK .i64 mk ly = 0)
  · rw [h1, h2] at h
    rcases idxN_cases n (hitB s x) with ⟨i, _, _, e⟩ | ⟨e, _⟩
    · have e : seI n s x = i := e
      rw [e, leZ_nat]; rfl
    · have e : seI n s x = -1 := e
      rw [e] at h ⊢
      exact decide_eq_false h
  · rfl
/-- What is seen, no error: nothing of it is behind a side; its depth. -/
theorem se_ok {n : Nat} {s : Nat → Nat → Int} {a b c d mk ly u v w : Int} {x : Nat → Int} (h : seE n s a b c d mk ly x = 0) (hin : inB (x 0) (x 1) (x 2) (x 3) (x 4) (x 5) u v w = true) (hd : ∀ i, i < n → diE (s i 0) (s i 1) (s i 2) (s i 3) u v w = 0) :
    (bhd s u v w n = false → seO n s a b c d mk ly x = !decide (andK .i64 mk ly = 0)) ∧ (seO n s a b c d mk ly x = true → diE a b c d u v w = 0 → seD n s a b c d mk ly x ≤ diV a b c d u v w) := by
  obtain ⟨i0, i1, i2, i3, i4, i5⟩ := inB_iff.1 hin
  unfold seE at h; unfold seO seD
  cases h1 : vwR n s a b c d mk
  · rw [h1] at h; cases h
  cases h2 : decide (andK .i64 mk ly = 0)
  · rw [h1, h2] at h
    rcases idxN_cases n (hitB s x) with ⟨i, hi, hp, e⟩ | ⟨e, _⟩
    · have e : seI n s x = i := e
      rw [e, leZ_nat] at h ⊢
      have h : shE s x i = 0 := h
      refine ⟨fun hb => ?_, fun hb => by cases hb⟩
      unfold hitB at hp
      rw [h, show decide ((0 : Int) = 0) = true from rfl, ltZ_eq] at hp
      have hp : shH s x i < 0 := by simpa using hp
      have := span_mid (u := u) (v := v) (w := w) h (hd i hi) i0 i3 i1 i4 i2 i5
      rw [bhd_of hi (by unfold shH at hp; omega)] at hb; cases hb
    · have e : seI n s x = -1 := e
      rw [e] at h ⊢
      have h : spE a b c d (x 0) (x 1) (x 2) (x 3) (x 4) (x 5) = 0 := h
      refine ⟨fun _ => decide_eq_true h, fun _ h3 => ?_⟩
      exact (span_mid (u := u) (v := v) (w := w) h h3 i0 i3 i1 i4 i2 i5).1
  · exact ⟨fun _ => rfl, fun h => by cases h⟩
theorem left_r (n : Nat) (s : Nat → Nat → Int) (a b c d mk : Int) (i0 i1 i2 i3 : Int) (cl : Bool) (ly : Int) (x : Nat → Int) (u v w : Int) : Fn E 11 [vw n s a b c d mk, rc i0 i1 i2 i3 cl ly x, l3 u v w] (vb true) := by
  refine Fn.of_TS ok11 rfl rfl rfl fun hr => ?_
  have hn : n ≤ 9223372036854775807 := hr.1.1.1
  refine TS.seq rfl ?_
  refine TS.run [] ok11.ord eqs_ok csV5_ok (by repeat (first | exact QF.noPanic | exact QCF.noPanic | refine TSR.noPanic ?_ | refine NoPanic.thenP ?_ | refine NoPanic.inB ?_)) (by first | exact .inl (by as_aux_lemma => kernel_rfl) | exact .inr (by as_aux_lemma => kernel_rfl)) ?_
  refine @vc_of _ (TS E (FnI.nt I11) (0 : Nat) (sub (FnI.code I11) [true]) [((3 : Nat), V.ptr (0 : Nat) (0 : Nat)), ((4 : Nat), V.ptr (1 : Nat) (0 : Nat)), ((5 : Nat), V.ptr (2 : Nat) (0 : Nat))] { n := (3 : Nat), b := [((0 : Nat), some (Blk.cells [V.d (D.rows n (4 : Nat) fun (i : Nat) => [D.int IntKind.i64 (s i (0 : Nat)), D.int IntKind.i64 (s i (1 : Nat)), D.int IntKind.i64 (s i (2 : Nat)), D.int IntKind.i64 (s i (3 : Nat))]), V.d (D.int IntKind.i64 a), V.d (D.int IntKind.i64 b), V.d (D.int IntKind.i64 c), V.d (D.int IntKind.i64 d), V.d (D.int IntKind.i64 mk)])), ((1 : Nat), some (Blk.cells [V.d (D.int IntKind.i64 i0), V.d (D.int IntKind.i64 i1), V.d (D.int IntKind.i64 i2), V.d (D.int IntKind.i64 i3), V.d (D.bool cl), V.d (D.int IntKind.i64 ly), V.d (D.int IntKind.i64 (x (0 : Nat))), V.d (D.int IntKind.i64 (x (1 : Nat))), V.d (D.int IntKind.i64 (x (2 : Nat))), V.d (D.int IntKind.i64 (x (3 : Nat))), V.d (D.int IntKind.i64 (x (4 : Nat))), V.d (D.int IntKind.i64 (x (5 : Nat)))])), ((2 : Nat), some (Blk.cells [V.d (D.int IntKind.i64 u), V.d (D.int IntKind.i64 v), V.d (D.int IntKind.i64 w)]))] } (QF (Env.tab E) (FnI.res I11) (vb true))) (by as_aux_lemma => kernel_rfl) ?_
  refine TS.seq rfl ?_
  refine TS.run [] ok11.ord eqs_ok csV5_ok (by repeat (first | exact QF.noPanic | exact QCF.noPanic | refine TSR.noPanic ?_ | refine NoPanic.thenP ?_ | refine NoPanic.inB ?_)) (by first | exact .inl (by as_aux_lemma => kernel_rfl) | exact .inr (by as_aux_lemma => kernel_rfl)) ?_
  refine @vc_of _ (TS E (FnI.nt I11) (0 : Nat) (sub (FnI.code I11) [true, true]) [((3 : Nat), V.ptr (0 : Nat) (0 : Nat)), ((4 : Nat), V.ptr (1 : Nat) (0 : Nat)), ((5 : Nat), V.ptr (2 : Nat) (0 : Nat)), ((7 : Nat), V.d (D.bool (inB (x (0 : Nat)) (x (1 : Nat)) (x (2 : Nat)) (x (3 : Nat)) (x (4 : Nat)) (x (5 : Nat)) u v w)))] { n := (3 : Nat), b := [((0 : Nat), some (Blk.cells [V.d (D.rows n (4 : Nat) fun (i : Nat) => [D.int IntKind.i64 (s i (0 : Nat)), D.int IntKind.i64 (s i (1 : Nat)), D.int IntKind.i64 (s i (2 : Nat)), D.int IntKind.i64 (s i (3 : Nat))]), V.d (D.int IntKind.i64 a), V.d (D.int IntKind.i64 b), V.d (D.int IntKind.i64 c), V.d (D.int IntKind.i64 d), V.d (D.int IntKind.i64 mk)])), ((1 : Nat), some (Blk.cells [V.d (D.int IntKind.i64 i0), V.d (D.int IntKind.i64 i1), V.d (D.int IntKind.i64 i2), V.d (D.int IntKind.i64 i3), V.d (D.bool cl), V.d (D.int IntKind.i64 ly), V.d (D.int IntKind.i64 (x (0 : Nat))), V.d (D.int IntKind.i64 (x (1 : Nat))), V.d (D.int IntKind.i64 (x (2 : Nat))), V.d (D.int IntKind.i64 (x (3 : Nat))), V.d (D.int IntKind.i64 (x (4 : Nat))), V.d (D.int IntKind.i64 (x (5 : Nat)))])), ((2 : Nat), some (Blk.cells [V.d (D.int IntKind.i64 u), V.d (D.int IntKind.i64 v), V.d (D.int IntKind.i64 w)]))] } (QF (Env.tab E) (FnI.res I11) (vb true))) (by as_aux_lemma => kernel_rfl) ?_
  refine TS.seq rfl ?_
  refine TS.run [] ok11.ord eqs_ok csV5_ok (by repeat (first | exact QF.noPanic | exact QCF.noPanic | refine TSR.noPanic ?_ | refine NoPanic.thenP ?_ | refine NoPanic.inB ?_)) (by first | exact .inl (by as_aux_lemma => kernel_rfl) | exact .inr (by as_aux_lemma => kernel_rfl)) ?_
  refine @vc_of _ (bif bif ltZ (60 : Int) (↑n : Int) then true else !inB (x (0 : Nat)) (x (1 : Nat)) (x (2 : Nat)) (x (3 : Nat)) (x (4 : Nat)) (x (5 : Nat)) u v w then V.d (D.bool true) = vb true else TS E (FnI.nt I11) (0 : Nat) (sub (FnI.code I11) [true, true, true]) [((28 : Nat), V.d (D.bool false)), ((3 : Nat), V.ptr (0 : Nat) (0 : Nat)), ((4 : Nat), V.ptr (1 : Nat) (0 : Nat)), ((5 : Nat), V.ptr (2 : Nat) (0 : Nat)), ((28 : Nat), V.d (D.bool (bif ltZ (60 : Int) (↑n : Int) then true else !inB (x (0 : Nat)) (x (1 : Nat)) (x (2 : Nat)) (x (3 : Nat)) (x (4 : Nat)) (x (5 : Nat)) u v w)))] { n := (3 : Nat), b := [((0 : Nat), some (Blk.cells [V.d (D.rows n (4 : Nat) fun (i : Nat) => [D.int IntKind.i64 (s i (0 : Nat)), D.int IntKind.i64 (s i (1 : Nat)), D.int IntKind.i64 (s i (2 : Nat)), D.int IntKind.i64 (s i (3 : Nat))]), V.d (D.int IntKind.i64 a), V.d (D.int IntKind.i64 b), V.d (D.int IntKind.i64 c), V.d (D.int IntKind.i64 d), V.d (D.int IntKind.i64 mk)])), ((1 : Nat), some (Blk.cells [V.d (D.int IntKind.i64 i0), V.d (D.int IntKind.i64 i1), V.d (D.int IntKind.i64 i2), V.d (D.int IntKind.i64 i3), V.d (D.bool cl), V.d (D.int IntKind.i64 ly), V.d (D.int IntKind.i64 (x (0 : Nat))), V.d (D.int IntKind.i64 (x (1 : Nat))), V.d (D.int IntKind.i64 (x (2 : Nat))), V.d (D.int IntKind.i64 (x (3 : Nat))), V.d (D.int IntKind.i64 (x (4 : Nat))), V.d (D.int IntKind.i64 (x (5 : Nat)))])), ((2 : Nat), some (Blk.cells [V.d (D.int IntKind.i64 u), V.d (D.int IntKind.i64 v), V.d (D.int IntKind.i64 w)]))] } (QF (Env.tab E) (FnI.res I11) (vb true))) (by as_aux_lemma => kernel_rfl) ?_
  refine way_iff.2 ⟨fun h1 => rfl, fun h1 => ?_⟩
  refine TS.seq rfl ?_
  refine TS.run [] ok11.ord eqs_ok csV5_ok (by repeat (first | exact QF.noPanic | exact QCF.noPanic | refine TSR.noPanic ?_ | refine NoPanic.thenP ?_ | refine NoPanic.inB ?_)) (by first | exact .inl (by as_aux_lemma => kernel_rfl) | exact .inr (by as_aux_lemma => kernel_rfl)) ?_
  refine @vc_of _ (TS E (FnI.nt I11) (0 : Nat) (sub (FnI.code I11) [true, true, true, true]) [((3 : Nat), V.ptr (0 : Nat) (0 : Nat)), ((4 : Nat), V.ptr (1 : Nat) (0 : Nat)), ((5 : Nat), V.ptr (2 : Nat) (0 : Nat)), ((8 : Nat), V.d (D.bool false))] { n := (3 : Nat), b := [((0 : Nat), some (Blk.cells [V.d (D.rows n (4 : Nat) fun (i : Nat) => [D.int IntKind.i64 (s i (0 : Nat)), D.int IntKind.i64 (s i (1 : Nat)), D.int IntKind.i64 (s i (2 : Nat)), D.int IntKind.i64 (s i (3 : Nat))]), V.d (D.int IntKind.i64 a), V.d (D.int IntKind.i64 b), V.d (D.int IntKind.i64 c), V.d (D.int IntKind.i64 d), V.d (D.int IntKind.i64 mk)])), ((1 : Nat), some (Blk.cells [V.d (D.int IntKind.i64 i0), V.d (D.int IntKind.i64 i1), V.d (D.int IntKind.i64 i2), V.d (D.int IntKind.i64 i3), V.d (D.bool cl), V.d (D.int IntKind.i64 ly), V.d (D.int IntKind.i64 (x (0 : Nat))), V.d (D.int IntKind.i64 (x (1 : Nat))), V.d (D.int IntKind.i64 (x (2 : Nat))), V.d (D.int IntKind.i64 (x (3 : Nat))), V.d (D.int IntKind.i64 (x (4 : Nat))), V.d (D.int IntKind.i64 (x (5 : Nat)))])), ((2 : Nat), some (Blk.cells [V.d (D.int IntKind.i64 u), V.d (D.int IntKind.i64 v), V.d (D.int IntKind.i64 w)]))] } (QF (Env.tab E) (FnI.res I11) (vb true))) (by as_aux_lemma => kernel_rfl) ?_
  refine TS.seq rfl ?_
  refine TS.seq rfl ?_
  refine TS.run [] ok11.ord eqs_ok csV5_ok (by repeat (first | exact QF.noPanic | exact QCF.noPanic | refine TSR.noPanic ?_ | refine NoPanic.thenP ?_ | refine NoPanic.inB ?_)) (by first | exact .inl (by as_aux_lemma => kernel_rfl) | exact .inr (by as_aux_lemma => kernel_rfl)) ?_
  refine @vc_of _ (TS E (FnI.nt I11) (0 : Nat) (sub (FnI.code I11) [true, true, true, true, false, true]) [((3 : Nat), V.ptr (0 : Nat) (0 : Nat)), ((4 : Nat), V.ptr (1 : Nat) (0 : Nat)), ((5 : Nat), V.ptr (2 : Nat) (0 : Nat)), ((8 : Nat), V.d (D.bool false)), ((9 : Nat), V.d (D.int IntKind.i64 (0 : Int)))] { n := (3 : Nat), b := [((0 : Nat), some (Blk.cells [V.d (D.rows n (4 : Nat) fun (i : Nat) => [D.int IntKind.i64 (s i (0 : Nat)), D.int IntKind.i64 (s i (1 : Nat)), D.int IntKind.i64 (s i (2 : Nat)), D.int IntKind.i64 (s i (3 : Nat))]), V.d (D.int IntKind.i64 a), V.d (D.int IntKind.i64 b), V.d (D.int IntKind.i64 c), V.d (D.int IntKind.i64 d), V.d (D.int IntKind.i64 mk)])), ((1 : Nat), some (Blk.cells [V.d (D.int IntKind.i64 i0), V.d (D.int IntKind.i64 i1), V.d (D.int IntKind.i64 i2), V.d (D.int IntKind.i64 i3), V.d (D.bool cl), V.d (D.int IntKind.i64 ly), V.d (D.int IntKind.i64 (x (0 : Nat))), V.d (D.int IntKind.i64 (x (1 : Nat))), V.d (D.int IntKind.i64 (x (2 : Nat))), V.d (D.int IntKind.i64 (x (3 : Nat))), V.d (D.int IntKind.i64 (x (4 : Nat))), V.d (D.int IntKind.i64 (x (5 : Nat)))])), ((2 : Nat), some (Blk.cells [V.d (D.int IntKind.i64 u), V.d (D.int IntKind.i64 v), V.d (D.int IntKind.i64 w)]))] } (thenP (fun (s' : Slots) (h' : Hp) => TS E (FnI.nt I11) (0 : Nat) (sub (FnI.code I11) ([true, true, true, true] ++ [true])) s' h' (QF (Env.tab E) (FnI.res I11) (vb true))) (QF (Env.tab E) (FnI.res I11) (vb true)))) (by as_aux_lemma => kernel_rfl) ?_
  refine TS.block (i := 0) rfl ?_
  refine TS.loop (fun k : Nat => [(3, .ptr 0 0), (4, .ptr 1 0), (5, .ptr 2 0), (8, vb (bhd s u v w k)), (9, vi k)]) (fun _ => hL n s a b c d mk i0 i1 i2 i3 cl ly x u v w) (fun k => k ≤ n ∧ ∀ i, i < k → diE (s i 0) (s i 1) (s i 2) (s i 3) u v w = 0) (fun k => n - k) 0 rfl ⟨?_, BSub.cons rfl (BkLe.refl _) (BSub.cons rfl (BkLe.refl _) (BSub.cons rfl (BkLe.refl _) (BSub.nil _))), rfl, rfl, Nat.zero_le _⟩ (Nat.le_refl _) ⟨Nat.zero_le _, fun i hi => by omega⟩ (fun k hk => ?_)
  · (repeat (first | exact SLe.nil _ | refine SLe.cons rfl (VLe.refl _) ?_))
  obtain ⟨hk1, hk2⟩ := hk
  refine TS.run [] ok11.ord eqs_ok csV5_ok (by repeat (first | exact QF.noPanic | exact QCF.noPanic | refine TSR.noPanic ?_ | refine NoPanic.thenP ?_ | refine NoPanic.inB ?_)) (by first | exact .inl (by as_aux_lemma => kernel_rfl) | exact .inr (by as_aux_lemma => kernel_rfl)) ?_
  refine @vc_of _ (bif ltZ (↑k : Int) (↑n : Int) then bif inI (↑k : Int) n then bif !decide (diE (s (Int.toNat (↑k : Int)) (0 : Nat)) (s (Int.toNat (↑k : Int)) (1 : Nat)) (s (Int.toNat (↑k : Int)) (2 : Nat)) (s (Int.toNat (↑k : Int)) (3 : Nat)) u v w = (0 : Int)) then V.d (D.bool true) = vb true else bif inRb IntKind.i64 ((↑k : Int) + (1 : Int)) then Again (0 : Nat) (fun (k : Nat) => [((3 : Nat), V.ptr (0 : Nat) (0 : Nat)), ((4 : Nat), V.ptr (1 : Nat) (0 : Nat)), ((5 : Nat), V.ptr (2 : Nat) (0 : Nat)), ((8 : Nat), vb (bhd s u v w k)), ((9 : Nat), vi (↑k : Int))]) (fun (x_1 : Nat) => hL n s a b c d mk i0 i1 i2 i3 cl ly x u v w) (fun (k : Nat) => k ≤ n ∧ ∀ (i : Nat), i < k → diE (s i (0 : Nat)) (s i (1 : Nat)) (s i (2 : Nat)) (s i (3 : Nat)) u v w = (0 : Int)) (fun (k : Nat) => n - k) k [((3 : Nat), V.ptr (0 : Nat) (0 : Nat)), ((4 : Nat), V.ptr (1 : Nat) (0 : Nat)), ((5 : Nat), V.ptr (2 : Nat) (0 : Nat)), ((8 : Nat), V.d (D.bool (bif bhd s u v w k then true else ltZ (diV (s (Int.toNat (↑k : Int)) (0 : Nat)) (s (Int.toNat (↑k : Int)) (1 : Nat)) (s (Int.toNat (↑k : Int)) (2 : Nat)) (s (Int.toNat (↑k : Int)) (3 : Nat)) u v w) (0 : Int)))), ((9 : Nat), V.d (D.int IntKind.i64 ((↑k : Int) + (1 : Int)))), ((52 : Nat), V.un), ((53 : Nat), V.un)] { n := (3 : Nat), b := [((0 : Nat), some (Blk.cells [V.d (D.rows n (4 : Nat) fun (i : Nat) => [D.int IntKind.i64 (s i (0 : Nat)), D.int IntKind.i64 (s i (1 : Nat)), D.int IntKind.i64 (s i (2 : Nat)), D.int IntKind.i64 (s i (3 : Nat))]), V.d (D.int IntKind.i64 a), V.d (D.int IntKind.i64 b), V.d (D.int IntKind.i64 c), V.d (D.int IntKind.i64 d), V.d (D.int IntKind.i64 mk)])), ((1 : Nat), some (Blk.cells [V.d (D.int IntKind.i64 i0), V.d (D.int IntKind.i64 i1), V.d (D.int IntKind.i64 i2), V.d (D.int IntKind.i64 i3), V.d (D.bool cl), V.d (D.int IntKind.i64 ly), V.d (D.int IntKind.i64 (x (0 : Nat))), V.d (D.int IntKind.i64 (x (1 : Nat))), V.d (D.int IntKind.i64 (x (2 : Nat))), V.d (D.int IntKind.i64 (x (3 : Nat))), V.d (D.int IntKind.i64 (x (4 : Nat))), V.d (D.int IntKind.i64 (x (5 : Nat)))])), ((2 : Nat), some (Blk.cells [V.d (D.int IntKind.i64 u), V.d (D.int IntKind.i64 v), V.d (D.int IntKind.i64 w)]))] } else False else False else TS E (FnI.nt I11) (0 : Nat) (sub (FnI.code I11) [true, true, true, true, true]) [((34 : Nat), V.d (D.bool false)), ((3 : Nat), V.ptr (0 : Nat) (0 : Nat)), ((4 : Nat), V.ptr (1 : Nat) (0 : Nat)), ((5 : Nat), V.ptr (2 : Nat) (0 : Nat)), ((8 : Nat), V.d (D.bool (bhd s u v w k))), ((9 : Nat), V.d (D.int IntKind.i64 (↑k : Int))), ((34 : Nat), V.d (D.bool (ltZ (↑k : Int) (↑n : Int))))] { n := (3 : Nat), b := [((0 : Nat), some (Blk.cells [V.d (D.rows n (4 : Nat) fun (i : Nat) => [D.int IntKind.i64 (s i (0 : Nat)), D.int IntKind.i64 (s i (1 : Nat)), D.int IntKind.i64 (s i (2 : Nat)), D.int IntKind.i64 (s i (3 : Nat))]), V.d (D.int IntKind.i64 a), V.d (D.int IntKind.i64 b), V.d (D.int IntKind.i64 c), V.d (D.int IntKind.i64 d), V.d (D.int IntKind.i64 mk)])), ((1 : Nat), some (Blk.cells [V.d (D.int IntKind.i64 i0), V.d (D.int IntKind.i64 i1), V.d (D.int IntKind.i64 i2), V.d (D.int IntKind.i64 i3), V.d (D.bool cl), V.d (D.int IntKind.i64 ly), V.d (D.int IntKind.i64 (x (0 : Nat))), V.d (D.int IntKind.i64 (x (1 : Nat))), V.d (D.int IntKind.i64 (x (2 : Nat))), V.d (D.int IntKind.i64 (x (3 : Nat))), V.d (D.int IntKind.i64 (x (4 : Nat))), V.d (D.int IntKind.i64 (x (5 : Nat)))])), ((2 : Nat), some (Blk.cells [V.d (D.int IntKind.i64 u), V.d (D.int IntKind.i64 v), V.d (D.int IntKind.i64 w)]))] } (QF (Env.tab E) (FnI.res I11) (vb true))) (by as_aux_lemma => kernel_rfl) ?_
  simp only [Int.toNat_natCast]
  refine way_iff.2 ⟨fun hl => ?_, fun hl => ?_⟩
  · simp only [ltZ_eq, decide_eq_true_eq] at hl
    refine need_iff.2 ⟨(by simp only [inI, inRb, loK, hiK, ltZ_eq, leZ_eq, Bool.and_eq_true, decide_eq_true_eq]; omega), ?_⟩
    refine way_iff.2 ⟨fun hp => by first | rfl | trivial, fun hp => ?_⟩
    refine need_iff.2 ⟨(by simp only [inI, inRb, loK, hiK, ltZ_eq, leZ_eq, Bool.and_eq_true, decide_eq_true_eq]; omega), ?_⟩
    refine ⟨k + 1, ⟨by omega, fun i hi => ?_⟩, by omega, Nat.le_refl _, ⟨?_, BSub.cons rfl (BkLe.refl _) (BSub.cons rfl (BkLe.refl _) (BSub.cons rfl (BkLe.refl _) (BSub.nil _))), rfl, rfl, Nat.zero_le _⟩⟩
    · rcases Nat.lt_or_ge i k with h | h
      · exact hk2 i h
      · obtain rfl : i = k := by omega
        simpa using hp
    · (repeat (first | exact SLe.nil _ | refine SLe.cons rfl (VLe.refl _) ?_))
  · simp only [ltZ_eq, decide_eq_false_iff_not] at hl
    obtain rfl : k = n := by omega
    have hin : inB (x 0) (x 1) (x 2) (x 3) (x 4) (x 5) u v w = true := by
      cases hI : inB (x 0) (x 1) (x 2) (x 3) (x 4) (x 5) u v w
      · rw [hI] at h1; cases hz : ltZ 60 (k : Int) <;> rw [hz] at h1 <;> cases h1
      · rfl
    have eD : seD k (fun (i j : Nat) => jD [D.int IntKind.i64 (s i 0), D.int IntKind.i64 (s i 1), D.int IntKind.i64 (s i 2), D.int IntKind.i64 (s i 3)] j) a b c d mk ly (nthI [x 0, x 1, x 2, x 3, x 4, x 5]) = seD k s a b c d mk ly x := rfl
    have eO : seO k (fun (i j : Nat) => jD [D.int IntKind.i64 (s i 0), D.int IntKind.i64 (s i 1), D.int IntKind.i64 (s i 2), D.int IntKind.i64 (s i 3)] j) a b c d mk ly (nthI [x 0, x 1, x 2, x 3, x 4, x 5]) = seO k s a b c d mk ly x := rfl
    have eE : seE k (fun (i j : Nat) => jD [D.int IntKind.i64 (s i 0), D.int IntKind.i64 (s i 1), D.int IntKind.i64 (s i 2), D.int IntKind.i64 (s i 3)] j) a b c d mk ly (nthI [x 0, x 1, x 2, x 3, x 4, x 5]) = seE k s a b c d mk ly x := rfl
    refine TS.seq rfl ?_
    refine TS.run [] ok11.ord eqs_ok csV5_ok (by repeat (first | exact QF.noPanic | exact QCF.noPanic | refine TSR.noPanic ?_ | refine NoPanic.thenP ?_ | refine NoPanic.inB ?_)) (by first | exact .inl (by as_aux_lemma => kernel_rfl) | exact .inr (by as_aux_lemma => kernel_rfl)) ?_
    refine @vc_of _ (((4 : Nat) = (4 : Nat) ∧ ∀ (i : Nat), [D.int IntKind.i64 (s i (0 : Nat)), D.int IntKind.i64 (s i (1 : Nat)), D.int IntKind.i64 (s i (2 : Nat)), D.int IntKind.i64 (s i (3 : Nat))] = [D.int IntKind.i64 (jD ((fun (i : Nat) => [D.int IntKind.i64 (s i (0 : Nat)), D.int IntKind.i64 (s i (1 : Nat)), D.int IntKind.i64 (s i (2 : Nat)), D.int IntKind.i64 (s i (3 : Nat))]) i) (0 : Nat)), D.int IntKind.i64 (jD ((fun (i : Nat) => [D.int IntKind.i64 (s i (0 : Nat)), D.int IntKind.i64 (s i (1 : Nat)), D.int IntKind.i64 (s i (2 : Nat)), D.int IntKind.i64 (s i (3 : Nat))]) i) (1 : Nat)), D.int IntKind.i64 (jD ((fun (i : Nat) => [D.int IntKind.i64 (s i (0 : Nat)), D.int IntKind.i64 (s i (1 : Nat)), D.int IntKind.i64 (s i (2 : Nat)), D.int IntKind.i64 (s i (3 : Nat))]) i) (2 : Nat)), D.int IntKind.i64 (jD ((fun (i : Nat) => [D.int IntKind.i64 (s i (0 : Nat)), D.int IntKind.i64 (s i (1 : Nat)), D.int IntKind.i64 (s i (2 : Nat)), D.int IntKind.i64 (s i (3 : Nat))]) i) (3 : Nat))]) ∧ TS E (FnI.nt I11) (0 : Nat) (sub (FnI.code I11) [true, true, true, true, true, true]) [((3 : Nat), V.ptr (0 : Nat) (0 : Nat)), ((4 : Nat), V.ptr (1 : Nat) (0 : Nat)), ((5 : Nat), V.ptr (2 : Nat) (0 : Nat)), ((8 : Nat), V.d (D.bool (bhd s u v w k))), ((12 : Nat), V.d (D.int IntKind.i64 (seD k (fun (i j : Nat) => jD [D.int IntKind.i64 (s i (0 : Nat)), D.int IntKind.i64 (s i (1 : Nat)), D.int IntKind.i64 (s i (2 : Nat)), D.int IntKind.i64 (s i (3 : Nat))] j) a b c d mk ly (nthI [x (0 : Nat), x (1 : Nat), x (2 : Nat), x (3 : Nat), x (4 : Nat), x (5 : Nat)])))), ((13 : Nat), V.d (D.bool (seO k (fun (i j : Nat) => jD [D.int IntKind.i64 (s i (0 : Nat)), D.int IntKind.i64 (s i (1 : Nat)), D.int IntKind.i64 (s i (2 : Nat)), D.int IntKind.i64 (s i (3 : Nat))] j) a b c d mk ly (nthI [x (0 : Nat), x (1 : Nat), x (2 : Nat), x (3 : Nat), x (4 : Nat), x (5 : Nat)])))), ((14 : Nat), V.d (D.int IntKind.i64 (seE k (fun (i j : Nat) => jD [D.int IntKind.i64 (s i (0 : Nat)), D.int IntKind.i64 (s i (1 : Nat)), D.int IntKind.i64 (s i (2 : Nat)), D.int IntKind.i64 (s i (3 : Nat))] j) a b c d mk ly (nthI [x (0 : Nat), x (1 : Nat), x (2 : Nat), x (3 : Nat), x (4 : Nat), x (5 : Nat)]))))] { n := (3 : Nat), b := [((0 : Nat), some (Blk.cells [V.d (D.rows k (4 : Nat) fun (i : Nat) => [D.int IntKind.i64 (s i (0 : Nat)), D.int IntKind.i64 (s i (1 : Nat)), D.int IntKind.i64 (s i (2 : Nat)), D.int IntKind.i64 (s i (3 : Nat))]), V.d (D.int IntKind.i64 a), V.d (D.int IntKind.i64 b), V.d (D.int IntKind.i64 c), V.d (D.int IntKind.i64 d), V.d (D.int IntKind.i64 mk)])), ((1 : Nat), some (Blk.cells [V.d (D.int IntKind.i64 i0), V.d (D.int IntKind.i64 i1), V.d (D.int IntKind.i64 i2), V.d (D.int IntKind.i64 i3), V.d (D.bool cl), V.d (D.int IntKind.i64 ly), V.d (D.int IntKind.i64 (x (0 : Nat))), V.d (D.int IntKind.i64 (x (1 : Nat))), V.d (D.int IntKind.i64 (x (2 : Nat))), V.d (D.int IntKind.i64 (x (3 : Nat))), V.d (D.int IntKind.i64 (x (4 : Nat))), V.d (D.int IntKind.i64 (x (5 : Nat)))])), ((2 : Nat), some (Blk.cells [V.d (D.int IntKind.i64 u), V.d (D.int IntKind.i64 v), V.d (D.int IntKind.i64 w)]))] } (QF (Env.tab E) (FnI.res I11) (vb true))) (by as_aux_lemma => kernel_rfl) ?_
    refine ⟨⟨rfl, fun _ => rfl⟩, ?_⟩
    rw [eD, eO, eE]
    refine TS.seq rfl ?_
    refine TS.run [] ok11.ord eqs_ok csV5_ok (by repeat (first | exact QF.noPanic | exact QCF.noPanic | refine TSR.noPanic ?_ | refine NoPanic.thenP ?_ | refine NoPanic.inB ?_)) (by first | exact .inl (by as_aux_lemma => kernel_rfl) | exact .inr (by as_aux_lemma => kernel_rfl)) ?_
    refine @vc_of _ (bif !decide (seE k s a b c d mk ly x = (0 : Int)) then V.d (D.bool !seO k s a b c d mk ly x) = vb true else TS E (FnI.nt I11) (0 : Nat) (sub (FnI.code I11) [true, true, true, true, true, true, true]) [((63 : Nat), V.d (D.bool false)), ((3 : Nat), V.ptr (0 : Nat) (0 : Nat)), ((4 : Nat), V.ptr (1 : Nat) (0 : Nat)), ((5 : Nat), V.ptr (2 : Nat) (0 : Nat)), ((8 : Nat), V.d (D.bool (bhd s u v w k))), ((12 : Nat), V.d (D.int IntKind.i64 (seD k s a b c d mk ly x))), ((13 : Nat), V.d (D.bool (seO k s a b c d mk ly x))), ((63 : Nat), V.d (D.bool !decide (seE k s a b c d mk ly x = (0 : Int))))] { n := (3 : Nat), b := [((0 : Nat), some (Blk.cells [V.d (D.rows k (4 : Nat) fun (i : Nat) => [D.int IntKind.i64 (s i (0 : Nat)), D.int IntKind.i64 (s i (1 : Nat)), D.int IntKind.i64 (s i (2 : Nat)), D.int IntKind.i64 (s i (3 : Nat))]), V.d (D.int IntKind.i64 a), V.d (D.int IntKind.i64 b), V.d (D.int IntKind.i64 c), V.d (D.int IntKind.i64 d), V.d (D.int IntKind.i64 mk)])), ((1 : Nat), some (Blk.cells [V.d (D.int IntKind.i64 i0), V.d (D.int IntKind.i64 i1), V.d (D.int IntKind.i64 i2), V.d (D.int IntKind.i64 i3), V.d (D.bool cl), V.d (D.int IntKind.i64 ly), V.d (D.int IntKind.i64 (x (0 : Nat))), V.d (D.int IntKind.i64 (x (1 : Nat))), V.d (D.int IntKind.i64 (x (2 : Nat))), V.d (D.int IntKind.i64 (x (3 : Nat))), V.d (D.int IntKind.i64 (x (4 : Nat))), V.d (D.int IntKind.i64 (x (5 : Nat)))])), ((2 : Nat), some (Blk.cells [V.d (D.int IntKind.i64 u), V.d (D.int IntKind.i64 v), V.d (D.int IntKind.i64 w)]))] } (QF (Env.tab E) (FnI.res I11) (vb true))) (by as_aux_lemma => kernel_rfl) ?_
    refine way_iff.2 ⟨fun he => ?_, fun he => ?_⟩
    · have he : seE k s a b c d mk ly x ≠ 0 := by simpa using he
      rw [se_err he]; rfl
    have he : seE k s a b c d mk ly x = 0 := by simpa using he
    obtain ⟨p1, p2⟩ := se_ok he hin hk2
    generalize seD k s a b c d mk ly x = vD at *
    generalize seO k s a b c d mk ly x = vO at *
    generalize bhd s u v w k = vB at *
    refine TS.seq rfl ?_
    refine TS.run [] ok11.ord eqs_ok csV5_ok (by repeat (first | exact QF.noPanic | exact QCF.noPanic | refine TSR.noPanic ?_ | refine NoPanic.thenP ?_ | refine NoPanic.inB ?_)) (by first | exact .inl (by as_aux_lemma => kernel_rfl) | exact .inr (by as_aux_lemma => kernel_rfl)) ?_
    refine @vc_of _ (bif bif !vB then !decide (vO = !decide (andK IntKind.i64 mk ly = (0 : Int))) else false then V.d (D.bool false) = vb true else TS E (FnI.nt I11) (0 : Nat) (sub (FnI.code I11) [true, true, true, true, true, true, true, true]) [((80 : Nat), V.d (D.bool false)), ((3 : Nat), V.ptr (0 : Nat) (0 : Nat)), ((5 : Nat), V.ptr (2 : Nat) (0 : Nat)), ((12 : Nat), V.d (D.int IntKind.i64 vD)), ((13 : Nat), V.d (D.bool vO)), ((80 : Nat), V.d (D.bool (bif !vB then !decide (vO = !decide (andK IntKind.i64 mk ly = (0 : Int))) else false)))] { n := (3 : Nat), b := [((0 : Nat), some (Blk.cells [V.d (D.rows k (4 : Nat) fun (i : Nat) => [D.int IntKind.i64 (s i (0 : Nat)), D.int IntKind.i64 (s i (1 : Nat)), D.int IntKind.i64 (s i (2 : Nat)), D.int IntKind.i64 (s i (3 : Nat))]), V.d (D.int IntKind.i64 a), V.d (D.int IntKind.i64 b), V.d (D.int IntKind.i64 c), V.d (D.int IntKind.i64 d), V.d (D.int IntKind.i64 mk)])), ((1 : Nat), some (Blk.cells [V.d (D.int IntKind.i64 i0), V.d (D.int IntKind.i64 i1), V.d (D.int IntKind.i64 i2), V.d (D.int IntKind.i64 i3), V.d (D.bool cl), V.d (D.int IntKind.i64 ly), V.d (D.int IntKind.i64 (x (0 : Nat))), V.d (D.int IntKind.i64 (x (1 : Nat))), V.d (D.int IntKind.i64 (x (2 : Nat))), V.d (D.int IntKind.i64 (x (3 : Nat))), V.d (D.int IntKind.i64 (x (4 : Nat))), V.d (D.int IntKind.i64 (x (5 : Nat)))])), ((2 : Nat), some (Blk.cells [V.d (D.int IntKind.i64 u), V.d (D.int IntKind.i64 v), V.d (D.int IntKind.i64 w)]))] } (QF (Env.tab E) (FnI.res I11) (vb true))) (by as_aux_lemma => kernel_rfl) ?_
    refine way_iff.2 ⟨fun hb => ?_, fun _ => ?_⟩
    · exfalso
      cases vB
      · rw [p1 rfl] at hb; simp at hb
      · cases hb
    refine TS.seq rfl ?_
    refine TS.run [] ok11.ord eqs_ok csV5_ok (by repeat (first | exact QF.noPanic | exact QCF.noPanic | refine TSR.noPanic ?_ | refine NoPanic.thenP ?_ | refine NoPanic.inB ?_)) (by first | exact .inl (by as_aux_lemma => kernel_rfl) | exact .inr (by as_aux_lemma => kernel_rfl)) ?_
    refine @vc_of _ (TS E (FnI.nt I11) (0 : Nat) (sub (FnI.code I11) [true, true, true, true, true, true, true, true, true]) [((12 : Nat), V.d (D.int IntKind.i64 vD)), ((13 : Nat), V.d (D.bool vO)), ((15 : Nat), V.d (D.int IntKind.i64 (diV a b c d u v w))), ((16 : Nat), V.d (D.int IntKind.i64 (diE a b c d u v w)))] { n := (3 : Nat), b := [((0 : Nat), some (Blk.cells [V.d (D.rows k (4 : Nat) fun (i : Nat) => [D.int IntKind.i64 (s i (0 : Nat)), D.int IntKind.i64 (s i (1 : Nat)), D.int IntKind.i64 (s i (2 : Nat)), D.int IntKind.i64 (s i (3 : Nat))]), V.d (D.int IntKind.i64 a), V.d (D.int IntKind.i64 b), V.d (D.int IntKind.i64 c), V.d (D.int IntKind.i64 d), V.d (D.int IntKind.i64 mk)])), ((1 : Nat), some (Blk.cells [V.d (D.int IntKind.i64 i0), V.d (D.int IntKind.i64 i1), V.d (D.int IntKind.i64 i2), V.d (D.int IntKind.i64 i3), V.d (D.bool cl), V.d (D.int IntKind.i64 ly), V.d (D.int IntKind.i64 (x (0 : Nat))), V.d (D.int IntKind.i64 (x (1 : Nat))), V.d (D.int IntKind.i64 (x (2 : Nat))), V.d (D.int IntKind.i64 (x (3 : Nat))), V.d (D.int IntKind.i64 (x (4 : Nat))), V.d (D.int IntKind.i64 (x (5 : Nat)))])), ((2 : Nat), some (Blk.cells [V.d (D.int IntKind.i64 u), V.d (D.int IntKind.i64 v), V.d (D.int IntKind.i64 w)]))] } (QF (Env.tab E) (FnI.res I11) (vb true))) (by as_aux_lemma => kernel_rfl) ?_
    refine TS.run [] ok11.ord eqs_ok csV5_ok (by repeat (first | exact QF.noPanic | exact QCF.noPanic | refine TSR.noPanic ?_ | refine NoPanic.thenP ?_ | refine NoPanic.inB ?_)) (by first | exact .inl (by as_aux_lemma => kernel_rfl) | exact .inr (by as_aux_lemma => kernel_rfl)) ?_
    refine @vc_of _ (V.d (D.bool (bif !vO then true else bif !decide (diE a b c d u v w = (0 : Int)) then true else leZ vD (diV a b c d u v w))) = vb true) (by as_aux_lemma => kernel_rfl) ?_
    cases vO
    · rfl
    · by_cases hd : diE a b c d u v w = 0
      · have := p2 rfl hd
        simp only [hd, decide_true, Bool.not_true, cond_false, cond_true, leZ_eq]
        rw [decide_eq_true this]
      · simp [hd]
theorem left_law : ∀ xs, OfVs E.tab 8 [92, 95, 24] xs → Call E 11 xs ⟨0, []⟩ (fun r _ => r = vb true) :=
  law_all (P' := ∀ (n : Nat) (s0 s1 s2 s3 : Nat → Int) (a b c d mk i0 i1 i2 i3 : Int) (cl : Bool) (ly x0 x1 x2 x3 x4 x5 u v w : Int), Fn E 11 [.agg [.d (.rows n 4 fun i => [.int .i64 (s0 i), .int .i64 (s1 i), .int .i64 (s2 i), .int .i64 (s3 i)]), vi a, vi b, vi c, vi d, vi mk], .agg [vi i0, vi i1, vi i2, vi i3, vb cl, vi ly, vi x0, vi x1, vi x2, vi x3, vi x4, vi x5], .agg [vi u, vi v, vi w]] (vb true)) (by kernel_rfl) (by kernel_rfl)
    fun n s0 s1 s2 s3 a b c d mk i0 i1 i2 i3 cl ly x0 x1 x2 x3 x4 x5 u v w => cast (by kernel_rfl) (left_r n (fun i j => nthI [s0 i, s1 i, s2 i, s3 i] j) a b c d mk i0 i1 i2 i3 cl ly (nthI [x0, x1, x2, x3, x4, x5]) u v w)
end Go.Proofs.Ytmgckodihnmjoaa
