/-
  Sets of kinds, and the kinds of a set: what the code comes to. Conditions: none.
-/
import Derived.Test.YthkoinngmcpjgaaPaB
set_option linter.unusedVariables false
set_option linter.unusedSimpArgs false
set_option maxRecDepth 20000
namespace Go.Proofs.Ythkoinngmcpjgaa
open Oc
set_option maxRecDepth 100000
def hsB (s k : Int) : Bool := leZ 0 k && (leZ k 4 && bitB s k.toNat)
theorem fin5 {k : Int} (h0 : leZ 0 k = true) (h4 : leZ k 4 = true) : ∃ j : _root_.Fin 5, k = (j.val : Int) := by
  simp only [leZ_eq, decide_eq_true_eq] at h0 h4
  exact ⟨⟨k.toNat, by omega⟩, by simp; omega⟩
theorem wrap5 : ∀ j : _root_.Fin 5, IntKind.u64.wrap (j.val : Int) = (j.val : Int) := by decide +kernel
theorem rhas_fn (s k : Int) : Fn E 35 [vi s, vi k] (vb (hsB s k)) := by
  refine Fn.of_vc ok35 eqs_ok csE_ok rfl rfl rfl (by first | exact .inl (by as_aux_lemma => kernel_rfl) | exact .inr (by as_aux_lemma => kernel_rfl)) fun hr => ?_
  refine @vc_of _ ((bif leZ (0 : Int) k then (bif leZ k (4 : Int) then bif leZ (0 : Int) (IntKind.wrap IntKind.u64 k) && leZ (IntKind.wrap IntKind.u64 k) (bitsK IntKind.i64) then True else False else True) ∧ True else True) ∧ V.d (D.bool (bif leZ (0 : Int) k then bif leZ k (4 : Int) then decide (andK IntKind.i64 (s / (2 : Int) ^ Int.toNat (IntKind.wrap IntKind.u64 k)) (1 : Int) = (1 : Int)) else false else false)) = vb (hsB s k)) (by as_aux_lemma => kernel_rfl) ?_
  unfold hsB
  cases h0 : leZ 0 k
  · simp only [cond_false, tt_, true_and, Bool.false_and]
  cases h4 : leZ k 4
  · simp only [cond_false, cond_true, tt_, true_and, Bool.false_and, Bool.and_false]
  obtain ⟨j, rfl⟩ := fin5 h0 h4
  rw [wrap5, Int.toNat_natCast, shift_bit, h0]
  have : leZ (j.val : Int) (bitsK .i64) = true := by
    clear h0 h4 hr
    revert j
    decide +kernel
  rw [this]
  refine ⟨⟨trivial, trivial⟩, ?_⟩
  cases bitB s j.val <;> rfl
noncomputable def ptE : List (Nat × (List V → Option (List Ob × V))) := (35, fun xs => match xs with
    | [.d (.int .i64 s), .d (.int .i64 k)] => some ([], vb (hsB s k))
    | _ => none) ::
  (29, fun xs => match xs with
    | [.d (.rows n e f)] => some ([.p (e = 1 ∧ ∀ i, f i = [.int .i64 (iD (f i))])], .tup [vi (ofV (fun i => iD (f i)) n), vi (ofE (fun i => iD (f i)) n)])
    | [.d (.lst 1 [.int .i64 k])] => some ([], .tup [vi (ofV (fun _ => k) 1), vi (ofE (fun _ => k) 1)])
    | _ => none) :: ptD
theorem ptE_ok : PtOk E ptE := by
  refine PtOk.cons ok35.en (fun args l r e hl => ?_) (PtOk.cons ok29.en (fun args l r e hl => ?_) (ptD_ok))
  · split at e
    · rename_i s k; cases e; exact rhas_fn ..
    · cases e
  · split at e
    · rename_i n e' f; cases e; obtain ⟨rfl, h⟩ := (obsL_cons hl).1; have := of_r n fun i => iD (f i); rwa [rw_, show (fun i => [D.int .i64 (iD (f i))]) = f from (funext h).symm] at this
    · rename_i k; cases e; exact Fn.leA rfl (.cons (VLe.ofL (f := fun _ => [.int .i64 k]) rfl (fun i hi => rfl)) .nil) (of_r 1 fun _ => k)
    · cases e
noncomputable def csF : Cs := csN E.tab eqs fnP none (csP ptE) 10
theorem csF_ok : CsOk E csF := csN_ok fnP_ok eqs_ok (csP_ok ptE_ok) 10
theorem lt_le (a b : Int) : ltZ a b = !leZ b a := by rw [ltZ_eq, leZ_eq, ← decide_not, decide_eq_decide]; omega
theorem thN (l : Nat → Int) (k : Nat) : (bif ltZ (l k) 0 then true else ltZ 4 (l k)) = !thI l k := by
  rw [lt_le, lt_le]; unfold thI
  cases leZ 0 (l k) <;> cases leZ (l k) 4 <;> rfl
theorem addN : ∀ (j : _root_.Fin 5) (b0 b1 b2 b3 b4 : Bool), (bif !bitB (setN b0 b1 b2 b3 b4) j.val then setN b0 b1 b2 b3 b4 + 1 * 2 ^ j.val else setN b0 b1 b2 b3 b4) = setN (b0 || decide ((j.val : Int) = 0)) (b1 || decide ((j.val : Int) = 1)) (b2 || decide ((j.val : Int) = 2)) (b3 || decide ((j.val : Int) = 3)) (b4 || decide ((j.val : Int) = 4)) := by decide +kernel
theorem th_fin {l : Nat → Int} {k : Nat} (h : thI l k = true) : ∃ j : _root_.Fin 5, l k = (j.val : Int) := by
  rw [th_eq] at h; obtain ⟨h0, h4⟩ := and_split h; exact fin5 h0 h4
theorem hs_fin (s : Int) : ∀ j : _root_.Fin 5, hsB s (j.val : Int) = bitB s j.val := fun j => by
  unfold hsB
  have h : leZ 0 (j.val : Int) = true ∧ leZ (j.val : Int) 4 = true := by revert j; decide +kernel
  rw [h.1, h.2]; rfl
theorem add_set {l : Nat → Int} {k : Nat} (h : thI l k = true) : (bif !hsB (setK l k) (l k) then setK l k + 1 * 2 ^ (IntKind.u64.wrap (l k)).toNat else setK l k) = setK l (k + 1) := by
  obtain ⟨j, hj⟩ := th_fin h
  rw [hj, hs_fin, wrap5, Int.toNat_natCast]
  unfold setK
  rw [addN]
  simp only [hasK, hj]
theorem sh_in {l : Nat → Int} {k : Nat} (h : thI l k = true) : (leZ 0 (IntKind.u64.wrap (l k)) && leZ (IntKind.u64.wrap (l k)) (bitsK .i64) && inRb .i64 (1 * 2 ^ (IntKind.u64.wrap (l k)).toNat)) = true := by
  obtain ⟨j, hj⟩ := th_fin h
  rw [hj, wrap5]
  clear hj
  revert j; decide +kernel
theorem setK_b (l : Nat → Int) (k : Nat) : 0 ≤ setK l k ∧ setK l k < 32 := setN_b ..
theorem pow_b {l : Nat → Int} {k : Nat} (h : thI l k = true) : 0 ≤ (1 * 2 ^ (IntKind.u64.wrap (l k)).toNat : Int) ∧ (1 * 2 ^ (IntKind.u64.wrap (l k)).toNat : Int) ≤ 16 := by
  obtain ⟨j, hj⟩ := th_fin h
  rw [hj, wrap5]
  clear hj
  revert j; decide +kernel
theorem rof_r (n : Nat) (l : Nat → Int) : Fn E 30 [rw_ n l] (.tup [vi (ofV l n), vi (ofE l n)]) := by
  refine Fn.of_TS ok30 rfl rfl rfl fun hr => ?_
  have hn : n ≤ 9223372036854775807 := hr.1.1
  refine TS.seq rfl ?_
  refine TS.run [] ok30.ord eqs_ok csF_ok (by repeat (first | exact QF.noPanic | exact QCF.noPanic | refine TSR.noPanic ?_ | refine NoPanic.thenP ?_ | refine NoPanic.inB ?_)) (by first | exact .inl (by as_aux_lemma => kernel_rfl) | exact .inr (by as_aux_lemma => kernel_rfl)) ?_
  refine @vc_of _ (TS E (FnI.nt I30) (0 : Nat) (sub (FnI.code I30) [true]) [((0 : Nat), V.d (D.rows n (1 : Nat) fun (i : Nat) => [D.int IntKind.i64 (l i)]))] { n := (0 : Nat), b := [] } (QF (Env.tab E) (FnI.res I30) (V.tup [vi (ofV l n), vi (ofE l n)]))) (by as_aux_lemma => kernel_rfl) ?_
  refine TS.seq rfl ?_
  refine TS.run [] ok30.ord eqs_ok csF_ok (by repeat (first | exact QF.noPanic | exact QCF.noPanic | refine TSR.noPanic ?_ | refine NoPanic.thenP ?_ | refine NoPanic.inB ?_)) (by first | exact .inl (by as_aux_lemma => kernel_rfl) | exact .inr (by as_aux_lemma => kernel_rfl)) ?_
  refine @vc_of _ (TS E (FnI.nt I30) (0 : Nat) (sub (FnI.code I30) [true, true]) [((0 : Nat), V.d (D.rows n (1 : Nat) fun (i : Nat) => [D.int IntKind.i64 (l i)])), ((4 : Nat), vI (0 : Int))] { n := (0 : Nat), b := [] } (QF (Env.tab E) (FnI.res I30) (V.tup [vi (ofV l n), vi (ofE l n)]))) (by as_aux_lemma => kernel_rfl) ?_
  refine TS.seq rfl ?_
  refine TS.seq rfl ?_
  refine TS.run [] ok30.ord eqs_ok csF_ok (by repeat (first | exact QF.noPanic | exact QCF.noPanic | refine TSR.noPanic ?_ | refine NoPanic.thenP ?_ | refine NoPanic.inB ?_)) (by first | exact .inl (by as_aux_lemma => kernel_rfl) | exact .inr (by as_aux_lemma => kernel_rfl)) ?_
  refine @vc_of _ (TS E (FnI.nt I30) (0 : Nat) (sub (FnI.code I30) [true, true, false, true]) [((0 : Nat), V.d (D.rows n (1 : Nat) fun (i : Nat) => [D.int IntKind.i64 (l i)])), ((4 : Nat), vI (0 : Int)), ((5 : Nat), vI (0 : Int))] { n := (0 : Nat), b := [] } (thenP (fun (s' : Slots) (h' : Hp) => TS E (FnI.nt I30) (0 : Nat) (sub (FnI.code I30) ([true, true] ++ [true])) s' h' (QF (Env.tab E) (FnI.res I30) (V.tup [vi (ofV l n), vi (ofE l n)]))) (QF (Env.tab E) (FnI.res I30) (V.tup [vi (ofV l n), vi (ofE l n)])))) (by as_aux_lemma => kernel_rfl) ?_
  refine TS.block (i := 0) rfl ?_
  refine TS.loop (fun k : Nat => [(0, rw_ n l), (4, vi (setK l k)), (5, vi k)]) (fun _ => ⟨0, []⟩) (fun k => k ≤ n ∧ ∀ i, i < k → thI l i = true) (fun k => n - k) 0 rfl ⟨?_, BSub.nil _, rfl, rfl, Nat.zero_le _⟩ (Nat.zero_le _) ⟨Nat.zero_le _, fun i hi => by omega⟩ (fun k hk => ?_)
  · (repeat (first | exact SLe.nil _ | refine SLe.cons rfl (VLe.refl _) ?_))
  obtain ⟨hk1, hk2⟩ := hk
  refine TS.run [] ok30.ord eqs_ok csF_ok (by repeat (first | exact QF.noPanic | exact QCF.noPanic | refine TSR.noPanic ?_ | refine NoPanic.thenP ?_ | refine NoPanic.inB ?_)) (by first | exact .inl (by as_aux_lemma => kernel_rfl) | exact .inr (by as_aux_lemma => kernel_rfl)) ?_
  refine @vc_of _ (bif ltZ (↑k : Int) (↑n : Int) then bif inI (↑k : Int) n then (bif ltZ (l (Int.toNat (↑k : Int))) (0 : Int) then True else bif inI (↑k : Int) n then True else False) ∧ bif bif ltZ (l (Int.toNat (↑k : Int))) (0 : Int) then true else ltZ (4 : Int) (l (Int.toNat (↑k : Int))) then V.tup [vI (0 : Int), vI (1 : Int)] = V.tup [vi (ofV l n), vi (ofE l n)] else bif inI (↑k : Int) n then (bif !hsB (setK l k) (l (Int.toNat (↑k : Int))) then bif inI (↑k : Int) n then bif leZ (0 : Int) (IntKind.wrap IntKind.u64 (l (Int.toNat (↑k : Int)))) && leZ (IntKind.wrap IntKind.u64 (l (Int.toNat (↑k : Int)))) (bitsK IntKind.i64) && inRb IntKind.i64 ((1 : Int) * (2 : Int) ^ Int.toNat (IntKind.wrap IntKind.u64 (l (Int.toNat (↑k : Int))))) then bif inRb IntKind.i64 (setK l k + (1 : Int) * (2 : Int) ^ Int.toNat (IntKind.wrap IntKind.u64 (l (Int.toNat (↑k : Int))))) then True else False else False else False else True) ∧ bif inRb IntKind.i64 ((↑k : Int) + (1 : Int)) then Again (0 : Nat) (fun (k : Nat) => [((0 : Nat), rw_ n l), ((4 : Nat), vi (setK l k)), ((5 : Nat), vi (↑k : Int))]) (fun (x : Nat) => { n := (0 : Nat), b := [] }) (fun (k : Nat) => k ≤ n ∧ ∀ (i : Nat), i < k → thI l i = true) (fun (k : Nat) => n - k) k [((0 : Nat), V.d (D.rows n (1 : Nat) fun (i : Nat) => [D.int IntKind.i64 (l i)])), ((4 : Nat), vI (bif !hsB (setK l k) (l (Int.toNat (↑k : Int))) then setK l k + (1 : Int) * (2 : Int) ^ Int.toNat (IntKind.wrap IntKind.u64 (l (Int.toNat (↑k : Int)))) else setK l k)), ((5 : Nat), vI ((↑k : Int) + (1 : Int))), ((19 : Nat), V.un), ((20 : Nat), V.un), ((21 : Nat), V.un), ((22 : Nat), V.un), ((23 : Nat), V.un)] { n := (0 : Nat), b := [] } else False else False else False else TS E (FnI.nt I30) (0 : Nat) (sub (FnI.code I30) [true, true, true]) [((10 : Nat), V.d (D.bool false)), ((0 : Nat), V.d (D.rows n (1 : Nat) fun (i : Nat) => [D.int IntKind.i64 (l i)])), ((4 : Nat), vI (setK l k)), ((5 : Nat), vI (↑k : Int)), ((10 : Nat), V.d (D.bool (ltZ (↑k : Int) (↑n : Int))))] { n := (0 : Nat), b := [] } (QF (Env.tab E) (FnI.res I30) (V.tup [vi (ofV l n), vi (ofE l n)]))) (by as_aux_lemma => kernel_rfl) ?_
  simp only [Int.toNat_natCast]
  rw [thN]
  refine way_iff.2 ⟨fun hl => ?_, fun hl => ?_⟩
  · simp only [ltZ_eq, decide_eq_true_eq] at hl
    refine need_iff.2 ⟨(by simp only [inI, inRb, loK, hiK, ltZ_eq, leZ_eq, Bool.and_eq_true, decide_eq_true_eq]; omega), ?_⟩
    rw [show inI (k : Int) n = true from (by simp only [inI, inRb, loK, hiK, ltZ_eq, leZ_eq, Bool.and_eq_true, decide_eq_true_eq]; omega)]
    simp only [cond_true, tt_, true_and]
    refine way_iff.2 ⟨fun hp => ?_, fun hp => ?_⟩
    · have hp : thI l k = false := by rwa [Bool.not_eq_true'] at hp
      unfold ofV ofE; rw [allN_false (by omega) hp]; rfl
    · have hp : thI l k = true := by rwa [Bool.not_eq_false'] at hp
      have hb := setK_b l k
      have hq := pow_b hp
      rw [sh_in hp, add_set hp, show inRb .i64 (setK l k + 1 * 2 ^ (IntKind.u64.wrap (l k)).toNat) = true from (by simp only [inI, inRb, loK, hiK, ltZ_eq, leZ_eq, Bool.and_eq_true, decide_eq_true_eq]; omega)]
      simp only [cond_true, tt_, true_and]
      refine need_iff.2 ⟨(by simp only [inI, inRb, loK, hiK, ltZ_eq, leZ_eq, Bool.and_eq_true, decide_eq_true_eq]; omega), ?_⟩
      refine ⟨k + 1, ⟨by omega, fun i hi => ?_⟩, by omega, Nat.le_refl _, ⟨?_, BSub.nil _, rfl, rfl, Nat.zero_le _⟩⟩
      · rcases Nat.lt_or_ge i k with h | h
        · exact hk2 i h
        · obtain rfl : i = k := by omega
          exact hp
      · (repeat (first | exact SLe.nil _ | refine SLe.cons rfl (VLe.refl _) ?_))
  · simp only [ltZ_eq, decide_eq_false_iff_not] at hl
    obtain rfl : k = n := by omega
    refine TS.run [] ok30.ord eqs_ok csF_ok (by repeat (first | exact QF.noPanic | exact QCF.noPanic | refine TSR.noPanic ?_ | refine NoPanic.thenP ?_ | refine NoPanic.inB ?_)) (by first | exact .inl (by as_aux_lemma => kernel_rfl) | exact .inr (by as_aux_lemma => kernel_rfl)) ?_
    refine @vc_of _ (V.tup [vI (setK l k), vI (0 : Int)] = V.tup [vi (ofV l k), vi (ofE l k)]) (by as_aux_lemma => kernel_rfl) ?_
    unfold ofV ofE; rw [allN_iff.2 hk2]; rfl
theorem phas_r (s : Int) (n : Nat) (l : Nat → Int) : Fn E 37 [vi s, rw_ n l] (vb (bif decide (ofE l n = 0) then decide (andK .i64 s (ofV l n) = ofV l n) else false)) := by
  refine Fn.of_vc ok37 eqs_ok csF_ok rfl rfl rfl (by first | exact .inl (by as_aux_lemma => kernel_rfl) | exact .inr (by as_aux_lemma => kernel_rfl)) fun hr => ?_
  refine @vc_of _ (((1 : Nat) = (1 : Nat) ∧ ∀ (i : Nat), [D.int IntKind.i64 (l i)] = [D.int IntKind.i64 (iD ((fun (i : Nat) => [D.int IntKind.i64 (l i)]) i))]) ∧ V.d (D.bool (bif decide (ofE (fun (i : Nat) => iD [D.int IntKind.i64 (l i)]) n = (0 : Int)) then decide (andK IntKind.i64 s (ofV (fun (i : Nat) => iD [D.int IntKind.i64 (l i)]) n) = ofV (fun (i : Nat) => iD [D.int IntKind.i64 (l i)]) n) else false)) = vb (bif decide (ofE l n = (0 : Int)) then decide (andK IntKind.i64 s (ofV l n) = ofV l n) else false)) (by as_aux_lemma => kernel_rfl) ?_
  exact ⟨⟨rfl, fun _ => rfl⟩, rfl⟩
end Go.Proofs.Ythkoinngmcpjgaa
