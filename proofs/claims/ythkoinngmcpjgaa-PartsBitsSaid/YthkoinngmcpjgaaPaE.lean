/-
  Parts, the document's way of laying; the kinds of a set: what the code comes to. Conditions: none.
-/
import Derived.Test.YthkoinngmcpjgaaPaD
set_option linter.unusedVariables false
set_option linter.unusedSimpArgs false
set_option maxRecDepth 20000
namespace Go.Proofs.Ythkoinngmcpjgaa
open Oc
set_option maxRecDepth 100000
section
variable {E : Env} {k B : Nat} {s : Slots} {h : Hp} {Q : Post} {c : Code}
/-- A nil slice becomes a row at hand. -/
theorem TS.virtR {tt e n : Nat} {f : Nat → List D} (hv : lk s tt = some (.d .nsl)) (hn : h.n = n) (t : TS E k B c ((tt, .sl e n 0 0) :: s) ⟨n + 1, (n, some (.rows 0 e f)) :: h.b⟩ Q) : TS E k B c s h Q := ⟨fun U m a w r => by
  subst hn
  obtain ⟨r1, st⟩ := r.virt (e := e) hv
  have r2 : SR k B U (ext m h.n none) ((tt, .sl e h.n 0 0) :: s) ⟨h.n + 1, (h.n, some (.rows 0 e f)) :: (h.n, some (.dat [])) :: h.b⟩ a w ∧ _ := r1.reblk (id := h.n) (blk := .dat []) (blk' := .rows 0 e f) (lk_here _ _ _) (by rw [ext_here]; exact .rows0)
  have e1 : HEq ((h.n, some (Blk.rows 0 e f)) :: (h.n, some (Blk.dat [])) :: h.b) ((h.n, some (.rows 0 e f)) :: h.b) := fun i => by
    simp only [lk_cons]; split <;> rfl
  have st3 := r2.2.heq e1
  exact wp_mono (t.t _ _ _ _ (r2.1.heq e1)) fun e a2 w2 q => RP_trans ((st.low r.base).trans st3) q⟩
end
theorem rlay_r (p : Nat → Int) (c : Bool) (q : Nat → Int) (d : Bool) (k : Int) : Fn E 78 [prt p c, prt q d, vi k] (.agg (prs (decide (k = 0)) (decide (k = 1)) (decide (k = 2)) (decide (k = 3)) p c q d)) := by
  refine Fn.of_vc ok78 eqs_ok csL_ok rfl rfl rfl (by first | exact .inl (by as_aux_lemma => kernel_rfl) | exact .inr (by as_aux_lemma => kernel_rfl)) fun hr => ?_
  refine @vc_of _ ((bif decide (k = (0 : Int)) then True else (bif decide (k = (1 : Int)) then True else (bif decide (k = (2 : Int)) then True else (bif decide (k = (3 : Int)) then True else True) ∧ True) ∧ True) ∧ True) ∧ V.agg [vI (bif decide (k = (0 : Int)) then p (0 : Nat) else bif decide (k = (1 : Int)) then p (0 : Nat) else bif decide (k = (2 : Int)) then p (0 : Nat) else bif decide (k = (3 : Int)) then p (0 : Nat) else p (0 : Nat)), vI (bif decide (k = (0 : Int)) then q (1 : Nat) else bif decide (k = (1 : Int)) then p (1 : Nat) else bif decide (k = (2 : Int)) then p (1 : Nat) else bif decide (k = (3 : Int)) then p (1 : Nat) else p (1 : Nat)), vI (bif decide (k = (0 : Int)) then q (2 : Nat) else bif decide (k = (1 : Int)) then p (2 : Nat) else bif decide (k = (2 : Int)) then p (2 : Nat) else bif decide (k = (3 : Int)) then p (2 : Nat) else p (2 : Nat)), vI (bif decide (k = (0 : Int)) then q (3 : Nat) else bif decide (k = (1 : Int)) then p (3 : Nat) else bif decide (k = (2 : Int)) then p (3 : Nat) else bif decide (k = (3 : Int)) then p (3 : Nat) else p (3 : Nat)), vI (bif decide (k = (0 : Int)) then q (4 : Nat) else bif decide (k = (1 : Int)) then p (4 : Nat) else bif decide (k = (2 : Int)) then p (4 : Nat) else bif decide (k = (3 : Int)) then p (4 : Nat) else p (4 : Nat)), vI (bif decide (k = (0 : Int)) then q (5 : Nat) else bif decide (k = (1 : Int)) then p (5 : Nat) else bif decide (k = (2 : Int)) then p (5 : Nat) else bif decide (k = (3 : Int)) then p (5 : Nat) else p (5 : Nat)), vI (bif decide (k = (0 : Int)) then q (6 : Nat) else bif decide (k = (1 : Int)) then p (6 : Nat) else bif decide (k = (2 : Int)) then p (6 : Nat) else bif decide (k = (3 : Int)) then p (6 : Nat) else p (6 : Nat)), vI (bif decide (k = (0 : Int)) then q (7 : Nat) else bif decide (k = (1 : Int)) then p (7 : Nat) else bif decide (k = (2 : Int)) then p (7 : Nat) else bif decide (k = (3 : Int)) then p (7 : Nat) else p (7 : Nat)), vI (bif decide (k = (0 : Int)) then q (8 : Nat) else bif decide (k = (1 : Int)) then p (8 : Nat) else bif decide (k = (2 : Int)) then p (8 : Nat) else bif decide (k = (3 : Int)) then p (8 : Nat) else p (8 : Nat)), vI (bif decide (k = (0 : Int)) then q (9 : Nat) else bif decide (k = (1 : Int)) then p (9 : Nat) else bif decide (k = (2 : Int)) then p (9 : Nat) else bif decide (k = (3 : Int)) then p (9 : Nat) else p (9 : Nat)), vI (bif decide (k = (0 : Int)) then q (10 : Nat) else bif decide (k = (1 : Int)) then p (10 : Nat) else bif decide (k = (2 : Int)) then p (10 : Nat) else bif decide (k = (3 : Int)) then p (10 : Nat) else p (10 : Nat)), vI (bif decide (k = (0 : Int)) then q (11 : Nat) else bif decide (k = (1 : Int)) then p (11 : Nat) else bif decide (k = (2 : Int)) then p (11 : Nat) else bif decide (k = (3 : Int)) then p (11 : Nat) else p (11 : Nat)), vI (bif decide (k = (0 : Int)) then q (12 : Nat) else bif decide (k = (1 : Int)) then p (12 : Nat) else bif decide (k = (2 : Int)) then p (12 : Nat) else bif decide (k = (3 : Int)) then p (12 : Nat) else p (12 : Nat)), vI (bif decide (k = (0 : Int)) then p (13 : Nat) else bif decide (k = (1 : Int)) then q (13 : Nat) else bif decide (k = (2 : Int)) then p (13 : Nat) else bif decide (k = (3 : Int)) then p (13 : Nat) else p (13 : Nat)), vI (bif decide (k = (0 : Int)) then p (14 : Nat) else bif decide (k = (1 : Int)) then q (14 : Nat) else bif decide (k = (2 : Int)) then p (14 : Nat) else bif decide (k = (3 : Int)) then p (14 : Nat) else p (14 : Nat)), vI (bif decide (k = (0 : Int)) then p (15 : Nat) else bif decide (k = (1 : Int)) then q (15 : Nat) else bif decide (k = (2 : Int)) then p (15 : Nat) else bif decide (k = (3 : Int)) then p (15 : Nat) else p (15 : Nat)), vI (bif decide (k = (0 : Int)) then p (16 : Nat) else bif decide (k = (1 : Int)) then q (16 : Nat) else bif decide (k = (2 : Int)) then p (16 : Nat) else bif decide (k = (3 : Int)) then p (16 : Nat) else p (16 : Nat)), vI (bif decide (k = (0 : Int)) then p (17 : Nat) else bif decide (k = (1 : Int)) then q (17 : Nat) else bif decide (k = (2 : Int)) then p (17 : Nat) else bif decide (k = (3 : Int)) then p (17 : Nat) else p (17 : Nat)), vI (bif decide (k = (0 : Int)) then p (18 : Nat) else bif decide (k = (1 : Int)) then q (18 : Nat) else bif decide (k = (2 : Int)) then p (18 : Nat) else bif decide (k = (3 : Int)) then p (18 : Nat) else p (18 : Nat)), vI (bif decide (k = (0 : Int)) then p (19 : Nat) else bif decide (k = (1 : Int)) then q (19 : Nat) else bif decide (k = (2 : Int)) then p (19 : Nat) else bif decide (k = (3 : Int)) then p (19 : Nat) else p (19 : Nat)), vI (bif decide (k = (0 : Int)) then p (20 : Nat) else bif decide (k = (1 : Int)) then p (20 : Nat) else bif decide (k = (2 : Int)) then q (20 : Nat) else bif decide (k = (3 : Int)) then p (20 : Nat) else p (20 : Nat)), vI (bif decide (k = (0 : Int)) then p (21 : Nat) else bif decide (k = (1 : Int)) then p (21 : Nat) else bif decide (k = (2 : Int)) then q (21 : Nat) else bif decide (k = (3 : Int)) then p (21 : Nat) else p (21 : Nat)), V.d (D.bool (bif decide (k = (0 : Int)) then c else bif decide (k = (1 : Int)) then c else bif decide (k = (2 : Int)) then d else bif decide (k = (3 : Int)) then c else c)), vI (bif decide (k = (0 : Int)) then p (22 : Nat) else bif decide (k = (1 : Int)) then p (22 : Nat) else bif decide (k = (2 : Int)) then p (22 : Nat) else bif decide (k = (3 : Int)) then q (22 : Nat) else p (22 : Nat))] = V.agg (prs (decide (k = (0 : Int))) (decide (k = (1 : Int))) (decide (k = (2 : Int))) (decide (k = (3 : Int))) p c q d)) (by as_aux_lemma => kernel_rfl) ?_
  by_cases h0 : k = 0
  · subst h0; exact ⟨by simp, rfl⟩
  by_cases h1 : k = 1
  · subst h1; exact ⟨by simp, rfl⟩
  by_cases h2 : k = 2
  · subst h2; exact ⟨by simp, rfl⟩
  by_cases h3 : k = 3
  · subst h3; exact ⟨by simp, rfl⟩
  rw [decide_eq_false h0, decide_eq_false h1, decide_eq_false h2, decide_eq_false h3]
  exact ⟨by simp, rfl⟩
/-- How many of the first kinds a set has, and which. -/
def cK (s : Int) (k : Nat) : Nat := match k with | 0 => 0 | k + 1 => bif bitB s k then cK s k + 1 else cK s k
def gK (s : Int) (k : Nat) : Nat → Int := match k with | 0 => fun _ => 0 | k + 1 => bif bitB s k then (fun i => bif Nat.blt i (cK s k) then gK s k i else k) else gK s k
theorem cK_le (s : Int) (k : Nat) : cK s k ≤ k := by
  induction k with
  | zero => exact Nat.le_refl _
  | succ k ih => unfold cK; cases bitB s k <;> simp only [cond_true, cond_false] <;> omega
theorem bit_ne (s : Int) {k : Nat} (hk : k < 5) : (!decide (andK .i64 s (1 * 2 ^ k) = 0)) = bitB s k := by
  obtain ⟨j, rfl⟩ : ∃ j : _root_.Fin 5, k = j.val := ⟨⟨k, hk⟩, rfl⟩
  have := pow_set j
  rw [Int.toNat_natCast] at this
  rw [this, and_set]
  match j with
  | ⟨0, _⟩ => cases bitB s 0 <;> simp [setN]
  | ⟨1, _⟩ => cases bitB s 1 <;> simp [setN]
  | ⟨2, _⟩ => cases bitB s 2 <;> simp [setN]
  | ⟨3, _⟩ => cases bitB s 3 <;> simp [setN]
  | ⟨4, _⟩ => cases bitB s 4 <;> simp [setN]
theorem kinds_r (s : Int) : Fn E 36 [vi s] (rw_ (cK s 5) (gK s 5)) := by
  refine Fn.of_TS ok36 rfl rfl rfl fun hr => ?_
  refine TS.seq rfl ?_
  refine TS.run [] ok36.ord eqs_ok csL_ok (by repeat (first | exact QF.noPanic | exact QCF.noPanic | refine TSR.noPanic ?_ | refine NoPanic.thenP ?_ | refine NoPanic.inB ?_)) (by first | exact .inl (by as_aux_lemma => kernel_rfl) | exact .inr (by as_aux_lemma => kernel_rfl)) ?_
  refine @vc_of _ (TS E (FnI.nt I36) (0 : Nat) (sub (FnI.code I36) [true]) [((0 : Nat), vI s)] { n := (0 : Nat), b := [] } (QF (Env.tab E) (FnI.res I36) (rw_ (cK s (5 : Nat)) (gK s (5 : Nat))))) (by as_aux_lemma => kernel_rfl) ?_
  refine TS.seq rfl ?_
  refine TS.run [] ok36.ord eqs_ok csL_ok (by repeat (first | exact QF.noPanic | exact QCF.noPanic | refine TSR.noPanic ?_ | refine NoPanic.thenP ?_ | refine NoPanic.inB ?_)) (by first | exact .inl (by as_aux_lemma => kernel_rfl) | exact .inr (by as_aux_lemma => kernel_rfl)) ?_
  refine @vc_of _ (TS E (FnI.nt I36) (0 : Nat) (sub (FnI.code I36) [true, true]) [((0 : Nat), vI s), ((3 : Nat), V.d D.nsl)] { n := (0 : Nat), b := [] } (QF (Env.tab E) (FnI.res I36) (rw_ (cK s (5 : Nat)) (gK s (5 : Nat))))) (by as_aux_lemma => kernel_rfl) ?_
  refine TS.virtR (tt := 3) (e := 1) (n := 0) (f := fun _ => [.int .i64 0]) rfl rfl ?_
  refine TS.seq rfl ?_
  refine TS.seq rfl ?_
  refine TS.run [] ok36.ord eqs_ok csL_ok (by repeat (first | exact QF.noPanic | exact QCF.noPanic | refine TSR.noPanic ?_ | refine NoPanic.thenP ?_ | refine NoPanic.inB ?_)) (by first | exact .inl (by as_aux_lemma => kernel_rfl) | exact .inr (by as_aux_lemma => kernel_rfl)) ?_
  refine @vc_of _ (TS E (FnI.nt I36) (0 : Nat) (sub (FnI.code I36) [true, true, false, true]) [((0 : Nat), vI s), ((3 : Nat), V.sl (1 : Nat) (0 : Nat) (0 : Nat) (0 : Nat)), ((4 : Nat), vI (0 : Int))] { n := (1 : Nat), b := [((0 : Nat), some (Blk.rows (0 : Nat) (1 : Nat) fun (x : Nat) => [D.int IntKind.i64 (0 : Int)]))] } (thenP (fun (s' : Slots) (h' : Hp) => TS E (FnI.nt I36) (0 : Nat) (sub (FnI.code I36) ([true, true] ++ [true])) s' h' (QF (Env.tab E) (FnI.res I36) (rw_ (cK s (5 : Nat)) (gK s (5 : Nat))))) (QF (Env.tab E) (FnI.res I36) (rw_ (cK s (5 : Nat)) (gK s (5 : Nat)))))) (by as_aux_lemma => kernel_rfl) ?_
  refine TS.block (i := 0) rfl ?_
  refine TS.loop (fun k : Nat => [(0, vi s), (3, .sl 1 0 0 (cK s k)), (4, vi k)]) (fun k => ⟨1, [(0, some (.rows (cK s k) 1 fun i => [.int .i64 (gK s k i)]))]⟩) (fun k => k ≤ 5) (fun k => 5 - k) 0 rfl ⟨?_, ?_, rfl, rfl, Nat.zero_le _⟩ (Nat.le_refl _) (Nat.zero_le _) (fun k hk => ?_)
  · (repeat (first | exact SLe.nil _ | refine SLe.cons rfl (VLe.refl _) ?_))
  · exact BSub.cons rfl (BkLe.refl _) (BSub.nil _)
  refine TS.run [] ok36.ord eqs_ok csL_ok (by repeat (first | exact QF.noPanic | exact QCF.noPanic | refine TSR.noPanic ?_ | refine NoPanic.thenP ?_ | refine NoPanic.inB ?_)) (by first | exact .inl (by as_aux_lemma => kernel_rfl) | exact .inr (by as_aux_lemma => kernel_rfl)) ?_
  refine @vc_of _ (bif leZ (↑k : Int) (4 : Int) then bif leZ (0 : Int) (↑k : Int) && leZ (↑k : Int) (4 : Int) then (bif !decide (andK IntKind.i64 s ((1 : Int) * (2 : Int) ^ Int.toNat (↑k : Int)) = (0 : Int)) then bif true && (decide (cK s k ≤ cK s k) && decide ((cK s k + (1 : Nat)) * Ty.bytes (Prod.snd ((63 : Nat), { d := TypeInfo.desc Try.t3, size := (1 : Nat), bytes := (8 : Nat), zero := TypeInfo.zero Try.t63 })) ≤ (140737488355328 : Nat))) then True else False else True) ∧ bif inRb IntKind.i64 ((↑k : Int) + (1 : Int)) then Again (0 : Nat) (fun (k : Nat) => [((0 : Nat), vi s), ((3 : Nat), V.sl (1 : Nat) (0 : Nat) (0 : Nat) (cK s k)), ((4 : Nat), vi (↑k : Int))]) (fun (k : Nat) => { n := (1 : Nat), b := [((0 : Nat), some (Blk.rows (cK s k) (1 : Nat) fun (i : Nat) => [D.int IntKind.i64 (gK s k i)]))] }) (fun (k : Nat) => k ≤ (5 : Nat)) (fun (k : Nat) => (5 : Nat) - k) k [((0 : Nat), vI s), ((3 : Nat), V.sl (1 : Nat) (0 : Nat) (selN (!decide (andK IntKind.i64 s ((1 : Int) * (2 : Int) ^ Int.toNat (↑k : Int)) = (0 : Int))) (0 : Nat) (0 : Nat)) (selN (!decide (andK IntKind.i64 s ((1 : Int) * (2 : Int) ^ Int.toNat (↑k : Int)) = (0 : Int))) (cK s k + (1 : Nat)) (cK s k))), ((4 : Nat), vI ((↑k : Int) + (1 : Int)))] { n := (1 : Nat), b := [((0 : Nat), some (Blk.rows (selN (!decide (andK IntKind.i64 s ((1 : Int) * (2 : Int) ^ Int.toNat (↑k : Int)) = (0 : Int))) (cK s k + (1 : Nat)) (cK s k)) (1 : Nat) fun (i : Nat) => [D.int IntKind.i64 (bif !decide (andK IntKind.i64 s ((1 : Int) * (2 : Int) ^ Int.toNat (↑k : Int)) = (0 : Int)) then bif Nat.blt i (cK s k) then gK s k i else (↑k : Int) else gK s k i)]))] } else False else False else TS E (FnI.nt I36) (0 : Nat) (sub (FnI.code I36) [true, true, true]) [((6 : Nat), V.d (D.bool false)), ((0 : Nat), vI s), ((3 : Nat), V.sl (1 : Nat) (0 : Nat) (0 : Nat) (cK s k)), ((4 : Nat), vI (↑k : Int)), ((6 : Nat), V.d (D.bool (leZ (↑k : Int) (4 : Int))))] { n := (1 : Nat), b := [((0 : Nat), some (Blk.rows (cK s k) (1 : Nat) fun (i : Nat) => [D.int IntKind.i64 (gK s k i)]))] } (QF (Env.tab E) (FnI.res I36) (rw_ (cK s (5 : Nat)) (gK s (5 : Nat))))) (by as_aux_lemma => kernel_rfl) ?_
  simp only [Int.toNat_natCast]
  have hc := cK_le s k
  refine way_iff.2 ⟨fun h4 => ?_, fun h4 => ?_⟩
  · simp only [leZ_eq, decide_eq_true_eq] at h4
    have hk5 : k < 5 := by omega
    refine need_iff.2 ⟨(by simp only [inI, inRb, loK, hiK, ltZ_eq, leZ_eq, Bool.and_eq_true, decide_eq_true_eq]; omega), ?_⟩
    rw [bit_ne s hk5]
    have t1 : ∀ a b : Nat, selN true a b = a := fun _ _ => selN_eq ..
    have t0 : ∀ a b : Nat, selN false a b = b := fun _ _ => selN_eq ..
    cases hb : bitB s k
    · have e1 : cK s (k + 1) = cK s k := by show (bif bitB s k then _ else _) = _; rw [hb]; rfl
      have e2 : gK s (k + 1) = gK s k := by show (bif bitB s k then _ else _) = _; rw [hb]; rfl
      simp only [t0, cond_false, Bool.false_eq_true]
      refine ⟨trivial, need_iff.2 ⟨(by simp only [inI, inRb, loK, hiK, ltZ_eq, leZ_eq, Bool.and_eq_true, decide_eq_true_eq]; omega), ?_⟩⟩
      refine ⟨k + 1, by omega, by omega, Nat.le_refl _, ⟨?_, ?_, rfl, rfl, Nat.zero_le _⟩⟩
      · rw [e1]; (repeat (first | exact SLe.nil _ | refine SLe.cons rfl (VLe.refl _) ?_))
      · rw [e1, e2]; exact BSub.cons rfl (BkLe.refl _) (BSub.nil _)
    · have e1 : cK s (k + 1) = cK s k + 1 := by show (bif bitB s k then _ else _) = _; rw [hb]; rfl
      have e2 : gK s (k + 1) = fun i => bif Nat.blt i (cK s k) then gK s k i else k := by show (bif bitB s k then _ else _) = _; rw [hb]; rfl
      simp only [t1, cond_true]
      refine ⟨need_iff.2 ⟨?_, trivial⟩, need_iff.2 ⟨(by simp only [inI, inRb, loK, hiK, ltZ_eq, leZ_eq, Bool.and_eq_true, decide_eq_true_eq]; omega), ?_⟩⟩
      · have : decide ((cK s k + 1) * 8 ≤ 140737488355328) = true := decide_eq_true (by omega)
        show (true && (decide (cK s k ≤ cK s k) && decide ((cK s k + 1) * 8 ≤ 140737488355328))) = true
        rw [this, decide_eq_true (Nat.le_refl _)]; rfl
      refine ⟨k + 1, by omega, by omega, Nat.le_refl _, ⟨?_, ?_, rfl, rfl, Nat.zero_le _⟩⟩
      · rw [e1]; (repeat (first | exact SLe.nil _ | refine SLe.cons rfl (VLe.refl _) ?_))
      · rw [e1, e2]; exact BSub.cons rfl (BkLe.refl _) (BSub.nil _)
  · simp only [leZ_eq, decide_eq_false_iff_not] at h4
    obtain rfl : k = 5 := by omega
    refine TS.run [] ok36.ord eqs_ok csL_ok (by repeat (first | exact QF.noPanic | exact QCF.noPanic | refine TSR.noPanic ?_ | refine NoPanic.thenP ?_ | refine NoPanic.inB ?_)) (by first | exact .inl (by as_aux_lemma => kernel_rfl) | exact .inr (by as_aux_lemma => kernel_rfl)) ?_
    refine @vc_of _ (bif decide (cK s (5 : Nat) ≤ cK s (5 : Nat)) then V.d (D.rows (cK s (5 : Nat)) (1 : Nat) fun (i : Nat) => [D.int IntKind.i64 (gK s (5 : Nat) i)]) = rw_ (cK s (5 : Nat)) (gK s (5 : Nat)) else False) (by as_aux_lemma => kernel_rfl) ?_
    exact need_iff.2 ⟨decide_eq_true (Nat.le_refl _), rfl⟩
end Go.Proofs.Ythkoinngmcpjgaa
