/-
  Sets of kinds, matrices and boxes that may be: what the code comes to. Conditions: none.
-/
import Derived.Test.YthkoinngmcpjgaaNuA
import Derived.Test.YthkoinngmcpjgaaPaP
set_option linter.unusedVariables false
set_option linter.unusedSimpArgs false
set_option maxRecDepth 20000
namespace Go.Proofs.Ythkoinngmcpjgaa
open Oc
set_option maxRecDepth 100000
def mt (f : Nat → Int) : V := .agg [vi (f 0), vi (f 1), vi (f 2), vi (f 3), vi (f 4), vi (f 5), vi (f 6), vi (f 7), vi (f 8), vi (f 9), vi (f 10), vi (f 11)]
def l12 (f : Nat → Int) : List Int := [f 0, f 1, f 2, f 3, f 4, f 5, f 6, f 7, f 8, f 9, f 10, f 11]
def bx (a b c x y z : Int) : V := .agg [vi a, vi b, vi c, vi x, vi y, vi z]
theorem idx1 (p : Bool) : leZ 0 (bif p then 0 else -1) = p := by cases p <;> decide
theorem idx2 (p q : Bool) : leZ 0 (bif p then 0 else bif q then 0 + 1 else -1) = (bif p then true else q) := by cases p <;> cases q <;> decide
theorem tt_ (p : Bool) : (bif p then True else True) = True := by cases p <;> rfl
theorem le_min (a x : Int) : decide (min a x = a) = leZ a x := by rw [leZ_eq, decide_eq_decide]; omega
/-- The functions, told how short lists are gone through, and which are reckoned in their caller's heap. -/
noncomputable def fnP : List (Nat × FnI) := (173, I173.hold [19]) :: (172, I172.more [7]) :: (133, I133.more [7]) :: (126, I126.impure) :: fns
theorem fnP_ok : FnsOk E fnP := FnsOk.cons (ok173.hold [19]) (FnsOk.cons (ok172.more [7]) (FnsOk.cons (ok133.more [7]) (FnsOk.cons ok126.impure fns_ok)))
noncomputable def csC : Cs := csN E.tab eqs fnP none (csP ptB) 12
theorem csC_ok : CsOk E csC := csN_ok fnP_ok eqs_ok (csP_ok ptB_ok) 12
theorem aright1 (f : Nat → Int) : Fn E 80 [.d (.lst 1 [.int .i64 (f 0), .int .i64 (f 1), .int .i64 (f 2), .int .i64 (f 3), .int .i64 (f 4), .int .i64 (f 5), .int .i64 (f 6), .int .i64 (f 7), .int .i64 (f 8), .int .i64 (f 9), .int .i64 (f 10), .int .i64 (f 11)])] (vb (rightL (l12 f))) := by
  refine Fn.of_vc ok80 eqs_ok csC_ok rfl rfl rfl (by first | exact .inl (by as_aux_lemma => kernel_rfl) | exact .inr (by as_aux_lemma => kernel_rfl)) fun hr => ?_
  refine @vc_of _ ((bif !rightL [f (0 : Nat), f (1 : Nat), f (2 : Nat), f (3 : Nat), f (4 : Nat), f (5 : Nat), f (6 : Nat), f (7 : Nat), f (8 : Nat), f (9 : Nat), f (10 : Nat), f (11 : Nat)] then True else True) ∧ V.d (D.bool !leZ (0 : Int) (bif !rightL [f (0 : Nat), f (1 : Nat), f (2 : Nat), f (3 : Nat), f (4 : Nat), f (5 : Nat), f (6 : Nat), f (7 : Nat), f (8 : Nat), f (9 : Nat), f (10 : Nat), f (11 : Nat)] then (0 : Int) else (-1 : Int))) = vb (rightL (l12 f))) (by as_aux_lemma => kernel_rfl) ?_
  rw [tt_, idx1, Bool.not_not]; exact ⟨trivial, rfl⟩
theorem raright (f : Nat → Int) : Fn E 82 [mt f] (vb (rightL (l12 f))) := by
  refine Fn.of_vc ok82 eqs_ok csC_ok rfl rfl rfl (by first | exact .inl (by as_aux_lemma => kernel_rfl) | exact .inr (by as_aux_lemma => kernel_rfl)) fun hr => ?_
  refine @vc_of _ (V.d (D.bool (rightL [f (0 : Nat), f (1 : Nat), f (2 : Nat), f (3 : Nat), f (4 : Nat), f (5 : Nat), f (6 : Nat), f (7 : Nat), f (8 : Nat), f (9 : Nat), f (10 : Nat), f (11 : Nat)])) = vb (rightL (l12 f))) (by as_aux_lemma => kernel_rfl) ?_
  rfl
def bxR (a b c x y z : Int) : Bool := rightL [a, b, c] && (rightL [x, y, z] && (leZ a x && (leZ b y && leZ c z)))
theorem least2 (a b c x y z : Int) : Fn E 133 [.d (.lst 2 [.int .i64 a, .int .i64 b, .int .i64 c, .int .i64 x, .int .i64 y, .int .i64 z])] (.agg [vi (min a x), vi (min b y), vi (min c z)]) := by
  refine Fn.of_vc (ok133.more [7]) eqs_ok csC_ok rfl rfl rfl (by first | exact .inl (by as_aux_lemma => kernel_rfl) | exact .inr (by as_aux_lemma => kernel_rfl)) fun hr => ?_
  refine @vc_of _ (((True ∧ True) ∧ True) ∧ V.agg [vI (match false with | true => max a x | false => min a x), vI (match false with | true => max b y | false => min b y), vI (match false with | true => max c z | false => min c z)] = V.agg [vi (min a x), vi (min b y), vi (min c z)]) (by as_aux_lemma => kernel_rfl) ?_
  exact ⟨⟨⟨trivial, trivial⟩, trivial⟩, rfl⟩
noncomputable def ptC : List (Nat × (List V → Option (List Ob × V))) := (133, fun xs => match xs with
    | [.d (.lst 2 [.int .i64 a, .int .i64 b, .int .i64 c, .int .i64 x, .int .i64 y, .int .i64 z])] => some ([], .agg [vi (min a x), vi (min b y), vi (min c z)])
    | _ => none) ::
  (80, fun xs => match xs with
    | [.d (.lst 1 [.int .i64 m0, .int .i64 m1, .int .i64 m2, .int .i64 m3, .int .i64 m4, .int .i64 m5, .int .i64 m6, .int .i64 m7, .int .i64 m8, .int .i64 m9, .int .i64 m10, .int .i64 m11])] => some ([], vb (rightL [m0, m1, m2, m3, m4, m5, m6, m7, m8, m9, m10, m11]))
    | _ => none) ::
  (82, fun xs => match xs with
    | [.agg [.d (.int .i64 m0), .d (.int .i64 m1), .d (.int .i64 m2), .d (.int .i64 m3), .d (.int .i64 m4), .d (.int .i64 m5), .d (.int .i64 m6), .d (.int .i64 m7), .d (.int .i64 m8), .d (.int .i64 m9), .d (.int .i64 m10), .d (.int .i64 m11)]] => some ([], vb (rightL [m0, m1, m2, m3, m4, m5, m6, m7, m8, m9, m10, m11]))
    | _ => none) :: ptB
theorem ptC_ok : PtOk E ptC := by
  refine PtOk.cons ok133.en (fun args l r e hl => ?_) (PtOk.cons ok80.en (fun args l r e hl => ?_) (PtOk.cons ok82.en (fun args l r e hl => ?_) (ptB_ok)))
  · split at e
    · rename_i a b c x y z; cases e; exact least2 ..
    · cases e
  · split at e
    · rename_i m0 m1 m2 m3 m4 m5 m6 m7 m8 m9 m10 m11; cases e; exact aright1 (nthI [m0, m1, m2, m3, m4, m5, m6, m7, m8, m9, m10, m11])
    · cases e
  · split at e
    · rename_i m0 m1 m2 m3 m4 m5 m6 m7 m8 m9 m10 m11; cases e; exact raright (nthI [m0, m1, m2, m3, m4, m5, m6, m7, m8, m9, m10, m11])
    · cases e
noncomputable def csD : Cs := csN E.tab eqs fnP none (csP ptC) 10
theorem csD_ok : CsOk E csD := csN_ok fnP_ok eqs_ok (csP_ok ptC_ok) 10
theorem sright1 (a b c x y z : Int) : Fn E 81 [.d (.lst 1 [.int .i64 a, .int .i64 b, .int .i64 c, .int .i64 x, .int .i64 y, .int .i64 z])] (vb (bxR a b c x y z)) := by
  refine Fn.of_vc ok81 eqs_ok csD_ok rfl rfl rfl (by first | exact .inl (by as_aux_lemma => kernel_rfl) | exact .inr (by as_aux_lemma => kernel_rfl)) fun hr => ?_
  refine @vc_of _ ((bif !rightL [a, b, c] then True else (bif !rightL [x, y, z] then True else True) ∧ True) ∧ (bif bif !!leZ (0 : Int) (bif !rightL [a, b, c] then (0 : Int) else bif !rightL [x, y, z] then (0 : Int) + (1 : Int) else (-1 : Int)) then true else !allB [decide (min a x = a), decide (min b y = b), decide (min c z = c)] then True else True) ∧ V.d (D.bool !leZ (0 : Int) (bif bif !!leZ (0 : Int) (bif !rightL [a, b, c] then (0 : Int) else bif !rightL [x, y, z] then (0 : Int) + (1 : Int) else (-1 : Int)) then true else !allB [decide (min a x = a), decide (min b y = b), decide (min c z = c)] then (0 : Int) else (-1 : Int))) = vb (bxR a b c x y z)) (by as_aux_lemma => kernel_rfl) ?_
  simp only [idx1, idx2, tt_, Bool.not_not, true_and, and_true, Bool.cond_self, allB, le_min]
  unfold bxR
  cases rightL [a, b, c] <;> cases rightL [x, y, z] <;> cases leZ a x <;> cases leZ b y <;> cases leZ c z <;> rfl
theorem rsright (a b c x y z : Int) : Fn E 83 [bx a b c x y z] (vb (bxR a b c x y z)) := by
  refine Fn.of_vc ok83 eqs_ok csD_ok rfl rfl rfl (by first | exact .inl (by as_aux_lemma => kernel_rfl) | exact .inr (by as_aux_lemma => kernel_rfl)) fun hr => ?_
  refine @vc_of _ ((bif !rightL [a, b, c] then True else (bif !rightL [x, y, z] then True else True) ∧ True) ∧ (bif bif !rightL [a, b, c] then false else bif !rightL [x, y, z] then false else true then True else True) ∧ (bif bif bif !rightL [a, b, c] then false else bif !rightL [x, y, z] then false else true then leZ a x else false then True else True) ∧ (bif bif bif bif !rightL [a, b, c] then false else bif !rightL [x, y, z] then false else true then leZ a x else false then leZ b y else false then True else True) ∧ V.d (D.bool (bif bif bif bif !rightL [a, b, c] then false else bif !rightL [x, y, z] then false else true then leZ a x else false then leZ b y else false then leZ c z else false)) = vb (bxR a b c x y z)) (by as_aux_lemma => kernel_rfl) ?_
  simp only [tt_, true_and]
  unfold bxR
  cases rightL [a, b, c] <;> cases rightL [x, y, z] <;> cases leZ a x <;> cases leZ b y <;> cases leZ c z <;> rfl
theorem bit_fn (k : Int) (h0 : leZ 0 k = true) (h4 : leZ k 4 = true) : Fn E 76 [vi k] (vi (1 * 2 ^ k.toNat)) := by
  refine Fn.of_vc ok76 eqs_ok csC_ok rfl rfl rfl (by first | exact .inl (by as_aux_lemma => kernel_rfl) | exact .inr (by as_aux_lemma => kernel_rfl)) fun hr => ?_
  refine @vc_of _ (bif leZ (0 : Int) k && leZ k (bitsK IntKind.i64) && inRb IntKind.i64 ((1 : Int) * (2 : Int) ^ Int.toNat k) then vI ((1 : Int) * (2 : Int) ^ Int.toNat k) = vi ((1 : Int) * (2 : Int) ^ Int.toNat k) else False) (by as_aux_lemma => kernel_rfl) ?_
  simp only [leZ_eq, decide_eq_true_eq] at h0 h4
  refine need_iff.2 ⟨?_, rfl⟩
  obtain ⟨j, rfl⟩ : ∃ j : _root_.Fin 5, k = (j.val : Int) := ⟨⟨k.toNat, by omega⟩, by simp; omega⟩
  clear hr h0 h4
  revert j
  decide +kernel
/-- Is a kind among the first ones? -/
def hasK (l : Nat → Int) (k : Nat) (j : Int) : Bool := match k with | 0 => false | k + 1 => hasK l k j || decide (l k = j)
def setK (l : Nat → Int) (k : Nat) : Int := setN (hasK l k 0) (hasK l k 1) (hasK l k 2) (hasK l k 3) (hasK l k 4)
def thI (l : Nat → Int) (i : Nat) : Bool := bif leZ 0 (l i) then leZ (l i) 4 else false
theorem th_eq (l : Nat → Int) (i : Nat) : thI l i = (leZ 0 (l i) && leZ (l i) 4) := by unfold thI; cases leZ 0 (l i) <;> rfl
theorem add_k : ∀ (j : _root_.Fin 5) (b0 b1 b2 b3 b4 : Bool), setN (b0 || decide (j.val = 0)) (b1 || decide (j.val = 1)) (b2 || decide (j.val = 2)) (b3 || decide (j.val = 3)) (b4 || decide (j.val = 4)) = setN (b0 || decide ((j.val : Int) = 0)) (b1 || decide ((j.val : Int) = 1)) (b2 || decide ((j.val : Int) = 2)) (b3 || decide ((j.val : Int) = 3)) (b4 || decide ((j.val : Int) = 4)) := by decide +kernel
theorem or_k (l : Nat → Int) (k : Nat) (h : thI l k = true) : orK .i64 (setK l k) (1 * 2 ^ (l k).toNat) = setK l (k + 1) := by
  rw [th_eq] at h
  obtain ⟨h0, h4⟩ := and_split h
  simp only [leZ_eq, decide_eq_true_eq] at h0 h4
  obtain ⟨j, hj⟩ : ∃ j : _root_.Fin 5, l k = (j.val : Int) := ⟨⟨(l k).toNat, by omega⟩, by simp; omega⟩
  unfold setK
  rw [hj, pow_set, or_set2]
  simp only [hasK, hj]
  exact add_k j _ _ _ _ _
noncomputable def ptD : List (Nat × (List V → Option (List Ob × V))) := (76, fun xs => match xs with
    | [.d (.int .i64 k)] => some ([.b (leZ 0 k && leZ k 4)], vi (1 * 2 ^ k.toNat))
    | _ => none) :: ptC
theorem ptD_ok : PtOk E ptD := by
  refine PtOk.cons ok76.en (fun args l r e hl => ?_) (ptC_ok)
  · split at e
    · rename_i k; cases e; obtain ⟨h0, h4⟩ := and_split (obsL_b hl).1; exact bit_fn k h0 h4
    · cases e
noncomputable def csE : Cs := csN E.tab eqs fnP none (csP ptD) 10
theorem csE_ok : CsOk E csE := csN_ok fnP_ok eqs_ok (csP_ok ptD_ok) 10
def ofE (l : Nat → Int) (n : Nat) : Int := bif allN n (thI l) then 0 else 1
def ofV (l : Nat → Int) (n : Nat) : Int := bif allN n (thI l) then setK l n else 0
theorem of_r (n : Nat) (l : Nat → Int) : Fn E 29 [rw_ n l] (.tup [vi (ofV l n), vi (ofE l n)]) := by
  refine Fn.of_TS ok29 rfl rfl rfl fun hr => ?_
  have hn : n ≤ 9223372036854775807 := hr.1.1
  refine TS.seq rfl ?_
  refine TS.run [] ok29.ord eqs_ok csE_ok (by repeat (first | exact QF.noPanic | exact QCF.noPanic | refine TSR.noPanic ?_ | refine NoPanic.thenP ?_ | refine NoPanic.inB ?_)) (by first | exact .inl (by as_aux_lemma => kernel_rfl) | exact .inr (by as_aux_lemma => kernel_rfl)) ?_
  refine @vc_of _ (TS E (FnI.nt I29) (0 : Nat) (sub (FnI.code I29) [true]) [((0 : Nat), V.d (D.rows n (1 : Nat) fun (i : Nat) => [D.int IntKind.i64 (l i)]))] { n := (0 : Nat), b := [] } (QF (Env.tab E) (FnI.res I29) (V.tup [vi (ofV l n), vi (ofE l n)]))) (by as_aux_lemma => kernel_rfl) ?_
  refine TS.seq rfl ?_
  refine TS.run [] ok29.ord eqs_ok csE_ok (by repeat (first | exact QF.noPanic | exact QCF.noPanic | refine TSR.noPanic ?_ | refine NoPanic.thenP ?_ | refine NoPanic.inB ?_)) (by first | exact .inl (by as_aux_lemma => kernel_rfl) | exact .inr (by as_aux_lemma => kernel_rfl)) ?_
  refine @vc_of _ (TS E (FnI.nt I29) (0 : Nat) (sub (FnI.code I29) [true, true]) [((0 : Nat), V.d (D.rows n (1 : Nat) fun (i : Nat) => [D.int IntKind.i64 (l i)])), ((4 : Nat), vI (0 : Int))] { n := (0 : Nat), b := [] } (QF (Env.tab E) (FnI.res I29) (V.tup [vi (ofV l n), vi (ofE l n)]))) (by as_aux_lemma => kernel_rfl) ?_
  refine TS.seq rfl ?_
  refine TS.seq rfl ?_
  refine TS.run [] ok29.ord eqs_ok csE_ok (by repeat (first | exact QF.noPanic | exact QCF.noPanic | refine TSR.noPanic ?_ | refine NoPanic.thenP ?_ | refine NoPanic.inB ?_)) (by first | exact .inl (by as_aux_lemma => kernel_rfl) | exact .inr (by as_aux_lemma => kernel_rfl)) ?_
  refine @vc_of _ (TS E (FnI.nt I29) (0 : Nat) (sub (FnI.code I29) [true, true, false, true]) [((4 : Nat), vI (0 : Int)), ((7 : Nat), V.d (D.rows n (1 : Nat) fun (i : Nat) => [D.int IntKind.i64 (l i)])), ((8 : Nat), vI (↑n : Int)), ((9 : Nat), vI (0 : Int))] { n := (0 : Nat), b := [] } (thenP (fun (s' : Slots) (h' : Hp) => TS E (FnI.nt I29) (0 : Nat) (sub (FnI.code I29) ([true, true] ++ [true])) s' h' (QF (Env.tab E) (FnI.res I29) (V.tup [vi (ofV l n), vi (ofE l n)]))) (QF (Env.tab E) (FnI.res I29) (V.tup [vi (ofV l n), vi (ofE l n)])))) (by as_aux_lemma => kernel_rfl) ?_
  refine TS.block (i := 0) rfl ?_
  refine TS.loop (fun k : Nat => [(4, vi (setK l k)), (7, rw_ n l), (8, vi n), (9, vi k)]) (fun _ => ⟨0, []⟩) (fun k => k ≤ n ∧ ∀ i, i < k → thI l i = true) (fun k => n - k) 0 rfl ⟨?_, BSub.nil _, rfl, rfl, Nat.zero_le _⟩ (Nat.zero_le _) ⟨Nat.zero_le _, fun i hi => by omega⟩ (fun k hk => ?_)
  · (repeat (first | exact SLe.nil _ | refine SLe.cons rfl (VLe.refl _) ?_))
  obtain ⟨hk1, hk2⟩ := hk
  refine TS.run [] ok29.ord eqs_ok csE_ok (by repeat (first | exact QF.noPanic | exact QCF.noPanic | refine TSR.noPanic ?_ | refine NoPanic.thenP ?_ | refine NoPanic.inB ?_)) (by first | exact .inl (by as_aux_lemma => kernel_rfl) | exact .inr (by as_aux_lemma => kernel_rfl)) ?_
  refine @vc_of _ (bif ltZ (↑k : Int) (↑n : Int) then bif inI (↑k : Int) n then bif !bif leZ (0 : Int) (l (Int.toNat (↑k : Int))) then leZ (l (Int.toNat (↑k : Int))) (4 : Int) else false then V.tup [vI (0 : Int), vI (1 : Int)] = V.tup [vi (ofV l n), vi (ofE l n)] else bif leZ (0 : Int) (l (Int.toNat (↑k : Int))) && leZ (l (Int.toNat (↑k : Int))) (4 : Int) then bif inRb IntKind.i64 ((↑k : Int) + (1 : Int)) then Again (0 : Nat) (fun (k : Nat) => [((4 : Nat), vi (setK l k)), ((7 : Nat), rw_ n l), ((8 : Nat), vi (↑n : Int)), ((9 : Nat), vi (↑k : Int))]) (fun (x : Nat) => { n := (0 : Nat), b := [] }) (fun (k : Nat) => k ≤ n ∧ ∀ (i : Nat), i < k → thI l i = true) (fun (k : Nat) => n - k) k [((4 : Nat), vI (orK IntKind.i64 (setK l k) ((1 : Int) * (2 : Int) ^ Int.toNat (l (Int.toNat (↑k : Int)))))), ((7 : Nat), V.d (D.rows n (1 : Nat) fun (i : Nat) => [D.int IntKind.i64 (l i)])), ((8 : Nat), vI (↑n : Int)), ((9 : Nat), vI ((↑k : Int) + (1 : Int)))] { n := (0 : Nat), b := [] } else False else False else False else TS E (FnI.nt I29) (0 : Nat) (sub (FnI.code I29) [true, true, true]) [((10 : Nat), V.d (D.bool false)), ((4 : Nat), vI (setK l k)), ((7 : Nat), V.d (D.rows n (1 : Nat) fun (i : Nat) => [D.int IntKind.i64 (l i)])), ((8 : Nat), vI (↑n : Int)), ((9 : Nat), vI (↑k : Int)), ((10 : Nat), V.d (D.bool (ltZ (↑k : Int) (↑n : Int))))] { n := (0 : Nat), b := [] } (QF (Env.tab E) (FnI.res I29) (V.tup [vi (ofV l n), vi (ofE l n)]))) (by as_aux_lemma => kernel_rfl) ?_
  simp only [Int.toNat_natCast]
  refine way_iff.2 ⟨fun hl => ?_, fun hl => ?_⟩
  · simp only [ltZ_eq, decide_eq_true_eq] at hl
    refine need_iff.2 ⟨(by simp only [inI, inRb, loK, hiK, ltZ_eq, leZ_eq, Bool.and_eq_true, decide_eq_true_eq]; omega), ?_⟩
    refine way_iff.2 ⟨fun hp => ?_, fun hp => ?_⟩
    · have hp : thI l k = false := by rwa [Bool.not_eq_true'] at hp
      unfold ofV ofE; rw [allN_false (by omega) hp]; rfl
    · have hp : thI l k = true := by rwa [Bool.not_eq_false'] at hp
      refine need_iff.2 ⟨by rw [← th_eq]; exact hp, need_iff.2 ⟨(by simp only [inI, inRb, loK, hiK, ltZ_eq, leZ_eq, Bool.and_eq_true, decide_eq_true_eq]; omega), ?_⟩⟩
      rw [or_k l k hp]
      refine ⟨k + 1, ⟨by omega, fun i hi => ?_⟩, by omega, Nat.le_refl _, ⟨?_, BSub.nil _, rfl, rfl, Nat.zero_le _⟩⟩
      · rcases Nat.lt_or_ge i k with h | h
        · exact hk2 i h
        · obtain rfl : i = k := by omega
          exact hp
      · (repeat (first | exact SLe.nil _ | refine SLe.cons rfl (VLe.refl _) ?_))
  · simp only [ltZ_eq, decide_eq_false_iff_not] at hl
    obtain rfl : k = n := by omega
    refine TS.run [] ok29.ord eqs_ok csE_ok (by repeat (first | exact QF.noPanic | exact QCF.noPanic | refine TSR.noPanic ?_ | refine NoPanic.thenP ?_ | refine NoPanic.inB ?_)) (by first | exact .inl (by as_aux_lemma => kernel_rfl) | exact .inr (by as_aux_lemma => kernel_rfl)) ?_
    refine @vc_of _ (V.tup [vI (setK l k), vI (0 : Int)] = V.tup [vi (ofV l k), vi (ofE l k)]) (by as_aux_lemma => kernel_rfl) ?_
    unfold ofV ofE; rw [allN_iff.2 hk2]; rfl
end Go.Proofs.Ythkoinngmcpjgaa
