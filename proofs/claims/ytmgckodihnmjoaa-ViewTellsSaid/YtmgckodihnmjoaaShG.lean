/-
  Rows of boxes: whether all may be: what the code comes to. Conditions: none.
-/
import Derived.Test.YtmgckodihnmjoaaShF
set_option linter.unusedVariables false
set_option linter.unusedSimpArgs false
set_option maxRecDepth 20000
namespace Go.Proofs.Ytmgckodihnmjoaa
open Oc
set_option maxRecDepth 100000
/-- A row of boxes. -/
def rb (n : Nat) (b : Nat → Nat → Int) : V := .d (.rows n 6 fun i => [.int .i64 (b i 0), .int .i64 (b i 1), .int .i64 (b i 2), .int .i64 (b i 3), .int .i64 (b i 4), .int .i64 (b i 5)])
def bxI (b : Nat → Nat → Int) (i : Nat) : Bool := bxR (b i 0) (b i 1) (b i 2) (b i 3) (b i 4) (b i 5)
theorem rclo (a b c x y z : Int) : Fn E 103 [bx a b c x y z] (vb (!bxR a b c x y z)) := by
  refine Fn.of_vc ok103 eqs_ok csH_ok rfl rfl rfl (by first | exact .inl (by as_aux_lemma => kernel_rfl) | exact .inr (by as_aux_lemma => kernel_rfl)) fun hr => ?_
  refine @vc_of _ ((bif !rightL [a, b, c] then True else (bif !rightL [x, y, z] then True else True) ∧ True) ∧ V.d (D.bool (bif !!leZ (0 : Int) (bif !rightL [a, b, c] then (0 : Int) else bif !rightL [x, y, z] then (0 : Int) + (1 : Int) else (-1 : Int)) then true else !allB [decide (min a x = a), decide (min b y = b), decide (min c z = c)])) = vb !bxR a b c x y z) (by as_aux_lemma => kernel_rfl) ?_
  try simp only [idx1, idx2, tt_, Bool.not_not, true_and, and_true, Bool.cond_self]
  unfold bxR
  rw [Bool.not_not]
noncomputable def ptJ : List (Nat × (List V → Option (List Ob × V))) := (103, bxP fun a b c x y z => !bxR a b c x y z) :: ptH
theorem ptJ_ok : PtOk E ptJ := PtOk.cons ok103.en (fun args l r e hl => by
  unfold bxP at e; split at e
  · cases e; exact rclo ..
  · cases e) ptH_ok
noncomputable def csJ : Cs := csN E.tab eqs fnS none (csP ptJ) 10
theorem csJ_ok : CsOk E csJ := csN_ok fnS_ok eqs_ok (csP_ok ptJ_ok) 10
theorem idxb_r (n : Nat) (b : Nat → Nat → Int) : Fn E 121 [rb n b, .d (.fn 103)] (vi (idxN n fun i => !bxI b i)) := by
  refine Fn.of_TS ok121 rfl rfl rfl fun hr => ?_
  have hn : n ≤ 9223372036854775807 := hr.1.1
  refine TS.seq rfl ?_
  refine TS.run [] ok121.ord eqs_ok csJ_ok (by repeat (first | exact QF.noPanic | exact QCF.noPanic | refine TSR.noPanic ?_ | refine NoPanic.thenP ?_ | refine NoPanic.inB ?_)) (by first | exact .inl (by as_aux_lemma => kernel_rfl) | exact .inr (by as_aux_lemma => kernel_rfl)) ?_
  refine @vc_of _ (TS E (FnI.nt I121) (0 : Nat) (sub (FnI.code I121) [true]) [((0 : Nat), V.d (D.rows n (6 : Nat) fun (i : Nat) => [D.int IntKind.i64 (b i (0 : Nat)), D.int IntKind.i64 (b i (1 : Nat)), D.int IntKind.i64 (b i (2 : Nat)), D.int IntKind.i64 (b i (3 : Nat)), D.int IntKind.i64 (b i (4 : Nat)), D.int IntKind.i64 (b i (5 : Nat))])), ((1 : Nat), V.d (D.fn (103 : Nat)))] { n := (0 : Nat), b := [] } (QF (Env.tab E) (FnI.res I121) (vi (idxN n fun (i : Nat) => !bxI b i)))) (by as_aux_lemma => kernel_rfl) ?_
  refine TS.seq rfl ?_
  refine TS.seq rfl ?_
  refine TS.run [] ok121.ord eqs_ok csJ_ok (by repeat (first | exact QF.noPanic | exact QCF.noPanic | refine TSR.noPanic ?_ | refine NoPanic.thenP ?_ | refine NoPanic.inB ?_)) (by first | exact .inl (by as_aux_lemma => kernel_rfl) | exact .inr (by as_aux_lemma => kernel_rfl)) ?_
  refine @vc_of _ (TS E (FnI.nt I121) (0 : Nat) (sub (FnI.code I121) [true, false, true]) [((0 : Nat), V.d (D.rows n (6 : Nat) fun (i : Nat) => [D.int IntKind.i64 (b i (0 : Nat)), D.int IntKind.i64 (b i (1 : Nat)), D.int IntKind.i64 (b i (2 : Nat)), D.int IntKind.i64 (b i (3 : Nat)), D.int IntKind.i64 (b i (4 : Nat)), D.int IntKind.i64 (b i (5 : Nat))])), ((1 : Nat), V.d (D.fn (103 : Nat))), ((7 : Nat), V.d (D.int IntKind.i64 (↑n : Int))), ((8 : Nat), V.d (D.int IntKind.i64 (0 : Int)))] { n := (0 : Nat), b := [] } (thenP (fun (s' : Slots) (h' : Hp) => TS E (FnI.nt I121) (0 : Nat) (sub (FnI.code I121) ([true] ++ [true])) s' h' (QF (Env.tab E) (FnI.res I121) (vi (idxN n fun (i : Nat) => !bxI b i)))) (QF (Env.tab E) (FnI.res I121) (vi (idxN n fun (i : Nat) => !bxI b i))))) (by as_aux_lemma => kernel_rfl) ?_
  refine TS.block (i := 0) rfl ?_
  refine TS.loop (fun k : Nat => [(0, rb n b), (1, .d (.fn 103)), (7, vi n), (8, vi k)]) (fun _ => ⟨0, []⟩) (fun k => k ≤ n ∧ ∀ i, i < k → (!bxI b i) = false) (fun k => n - k) 0 rfl ⟨?_, BSub.nil _, rfl, rfl, Nat.zero_le _⟩ (Nat.zero_le _) ⟨Nat.zero_le _, fun i hi => by omega⟩ (fun k hk => ?_)
  · (repeat (first | exact SLe.nil _ | refine SLe.cons rfl (VLe.refl _) ?_))
  refine TS.run [] ok121.ord eqs_ok csJ_ok (by repeat (first | exact QF.noPanic | exact QCF.noPanic | refine TSR.noPanic ?_ | refine NoPanic.thenP ?_ | refine NoPanic.inB ?_)) (by first | exact .inl (by as_aux_lemma => kernel_rfl) | exact .inr (by as_aux_lemma => kernel_rfl)) ?_
  refine @vc_of _ (bif ltZ (↑k : Int) (↑n : Int) then bif inI (↑k : Int) n then bif !bxR (b (Int.toNat (↑k : Int)) (0 : Nat)) (b (Int.toNat (↑k : Int)) (1 : Nat)) (b (Int.toNat (↑k : Int)) (2 : Nat)) (b (Int.toNat (↑k : Int)) (3 : Nat)) (b (Int.toNat (↑k : Int)) (4 : Nat)) (b (Int.toNat (↑k : Int)) (5 : Nat)) then V.d (D.int IntKind.i64 (↑k : Int)) = vi (idxN n fun (i : Nat) => !bxI b i) else bif inRb IntKind.i64 ((↑k : Int) + (1 : Int)) then Again (0 : Nat) (fun (k : Nat) => [((0 : Nat), rb n b), ((1 : Nat), V.d (D.fn (103 : FuncId))), ((7 : Nat), vi (↑n : Int)), ((8 : Nat), vi (↑k : Int))]) (fun (x : Nat) => { n := (0 : Nat), b := [] }) (fun (k : Nat) => k ≤ n ∧ ∀ (i : Nat), i < k → (!bxI b i) = false) (fun (k : Nat) => n - k) k [((0 : Nat), V.d (D.rows n (6 : Nat) fun (i : Nat) => [D.int IntKind.i64 (b i (0 : Nat)), D.int IntKind.i64 (b i (1 : Nat)), D.int IntKind.i64 (b i (2 : Nat)), D.int IntKind.i64 (b i (3 : Nat)), D.int IntKind.i64 (b i (4 : Nat)), D.int IntKind.i64 (b i (5 : Nat))])), ((1 : Nat), V.d (D.fn (103 : Nat))), ((7 : Nat), V.d (D.int IntKind.i64 (↑n : Int))), ((8 : Nat), V.d (D.int IntKind.i64 ((↑k : Int) + (1 : Int))))] { n := (0 : Nat), b := [] } else False else False else TS E (FnI.nt I121) (0 : Nat) (sub (FnI.code I121) [true, true]) [((9 : Nat), V.d (D.bool false)), ((0 : Nat), V.d (D.rows n (6 : Nat) fun (i : Nat) => [D.int IntKind.i64 (b i (0 : Nat)), D.int IntKind.i64 (b i (1 : Nat)), D.int IntKind.i64 (b i (2 : Nat)), D.int IntKind.i64 (b i (3 : Nat)), D.int IntKind.i64 (b i (4 : Nat)), D.int IntKind.i64 (b i (5 : Nat))])), ((1 : Nat), V.d (D.fn (103 : Nat))), ((7 : Nat), V.d (D.int IntKind.i64 (↑n : Int))), ((8 : Nat), V.d (D.int IntKind.i64 (↑k : Int))), ((9 : Nat), V.d (D.bool (ltZ (↑k : Int) (↑n : Int))))] { n := (0 : Nat), b := [] } (QF (Env.tab E) (FnI.res I121) (vi (idxN n fun (i : Nat) => !bxI b i)))) (by as_aux_lemma => kernel_rfl) ?_
  simp only [Int.toNat_natCast]
  obtain ⟨hk1, hk2⟩ := hk
  refine way_iff.2 ⟨fun hc => ?_, fun hc => ?_⟩
  · simp only [ltZ_eq, decide_eq_true_eq] at hc
    refine need_iff.2 ⟨by simp only [inI, ltZ_eq, leZ_eq, Bool.and_eq_true, decide_eq_true_eq]; omega, ?_⟩
    refine way_iff.2 ⟨fun hp => ?_, fun hp => ?_⟩
    · rw [idxN_hit (by omega) hk2 hp]
    · refine need_iff.2 ⟨by simp only [inRb, loK, hiK, leZ_eq, Bool.and_eq_true, decide_eq_true_eq]; omega, ?_⟩
      refine ⟨k + 1, ⟨by omega, fun i hi => ?_⟩, by omega, Nat.le_refl _, ⟨?_, BSub.nil _, rfl, rfl, Nat.zero_le _⟩⟩
      · rcases Nat.lt_or_ge i k with h | h
        · exact hk2 i h
        · obtain rfl : i = k := by omega
          exact hp
      · (repeat (first | exact SLe.nil _ | refine SLe.cons rfl (VLe.refl _) ?_))
  · simp only [ltZ_eq, decide_eq_false_iff_not] at hc
    refine TS.run [] ok121.ord eqs_ok csJ_ok (by repeat (first | exact QF.noPanic | exact QCF.noPanic | refine TSR.noPanic ?_ | refine NoPanic.thenP ?_ | refine NoPanic.inB ?_)) (by first | exact .inl (by as_aux_lemma => kernel_rfl) | exact .inr (by as_aux_lemma => kernel_rfl)) ?_
    refine @vc_of _ (V.d (D.int IntKind.i64 (-1 : Int)) = vi (idxN n fun (i : Nat) => !bxI b i)) (by as_aux_lemma => kernel_rfl) ?_
    rw [idxN_miss (fun i hi => hk2 i (by omega))]
/-- A cell's number, of an element. -/
def jD (l : List D) (j : Nat) : Int := iC (l.getD j (.int .i64 0))
def okBx (f : Nat → List D) : Prop := ∀ i, f i = [.int .i64 (jD (f i) 0), .int .i64 (jD (f i) 1), .int .i64 (jD (f i) 2), .int .i64 (jD (f i) 3), .int .i64 (jD (f i) 4), .int .i64 (jD (f i) 5)]
theorem rb_of {n : Nat} {f : Nat → List D} (h : okBx f) : V.d (.rows n 6 f) = rb n fun i j => jD (f i) j := by
  unfold rb
  rw [show (fun i => [.int .i64 (jD (f i) 0), .int .i64 (jD (f i) 1), .int .i64 (jD (f i) 2), .int .i64 (jD (f i) 3), .int .i64 (jD (f i) 4), .int .i64 (jD (f i) 5)]) = f from (funext h).symm]
noncomputable def idxbP : List V → Option (List Ob × V) := fun xs => match xs with
  | [.d (.rows n e f), .d (.fn g)] => some ([.p (e = 6 ∧ g = 103 ∧ okBx f)], vi (idxN n fun i => !bxI (fun i j => jD (f i) j) i))
  | _ => none
theorem idxbP_ok : ∀ args l r, idxbP args = some (l, r) → obsL l → Fn E 121 args r := fun args l r e hl => by
  unfold idxbP at e; split at e
  · cases e
    obtain ⟨rfl, rfl, h⟩ := (obsL_cons hl).1
    rw [rb_of h]
    exact idxb_r _ _
  · cases e
noncomputable def csX1 : Cs := csN E.tab eqs fnS none (csP ((121, idxbP) :: ptJ)) 10
theorem csX1_ok : CsOk E csX1 := csN_ok fnS_ok eqs_ok (csP_ok (PtOk.cons ok121.en idxbP_ok ptJ_ok)) 10
def allBx (n : Nat) (b : Nat → Nat → Int) : Bool := allN n (bxI b)
theorem rightb_r (n : Nat) (b : Nat → Nat → Int) : Fn E 52 [rb n b] (vb (allBx n b)) := by
  refine Fn.of_vc ok52 eqs_ok csX1_ok rfl rfl rfl (by first | exact .inl (by as_aux_lemma => kernel_rfl) | exact .inr (by as_aux_lemma => kernel_rfl)) fun hr => ?_
  refine @vc_of _ (((6 : Nat) = (6 : Nat) ∧ (103 : Nat) = (103 : FuncId) ∧ ∀ (i : Nat), [D.int IntKind.i64 (b i (0 : Nat)), D.int IntKind.i64 (b i (1 : Nat)), D.int IntKind.i64 (b i (2 : Nat)), D.int IntKind.i64 (b i (3 : Nat)), D.int IntKind.i64 (b i (4 : Nat)), D.int IntKind.i64 (b i (5 : Nat))] = [D.int IntKind.i64 (jD ((fun (i : Nat) => [D.int IntKind.i64 (b i (0 : Nat)), D.int IntKind.i64 (b i (1 : Nat)), D.int IntKind.i64 (b i (2 : Nat)), D.int IntKind.i64 (b i (3 : Nat)), D.int IntKind.i64 (b i (4 : Nat)), D.int IntKind.i64 (b i (5 : Nat))]) i) (0 : Nat)), D.int IntKind.i64 (jD ((fun (i : Nat) => [D.int IntKind.i64 (b i (0 : Nat)), D.int IntKind.i64 (b i (1 : Nat)), D.int IntKind.i64 (b i (2 : Nat)), D.int IntKind.i64 (b i (3 : Nat)), D.int IntKind.i64 (b i (4 : Nat)), D.int IntKind.i64 (b i (5 : Nat))]) i) (1 : Nat)), D.int IntKind.i64 (jD ((fun (i : Nat) => [D.int IntKind.i64 (b i (0 : Nat)), D.int IntKind.i64 (b i (1 : Nat)), D.int IntKind.i64 (b i (2 : Nat)), D.int IntKind.i64 (b i (3 : Nat)), D.int IntKind.i64 (b i (4 : Nat)), D.int IntKind.i64 (b i (5 : Nat))]) i) (2 : Nat)), D.int IntKind.i64 (jD ((fun (i : Nat) => [D.int IntKind.i64 (b i (0 : Nat)), D.int IntKind.i64 (b i (1 : Nat)), D.int IntKind.i64 (b i (2 : Nat)), D.int IntKind.i64 (b i (3 : Nat)), D.int IntKind.i64 (b i (4 : Nat)), D.int IntKind.i64 (b i (5 : Nat))]) i) (3 : Nat)), D.int IntKind.i64 (jD ((fun (i : Nat) => [D.int IntKind.i64 (b i (0 : Nat)), D.int IntKind.i64 (b i (1 : Nat)), D.int IntKind.i64 (b i (2 : Nat)), D.int IntKind.i64 (b i (3 : Nat)), D.int IntKind.i64 (b i (4 : Nat)), D.int IntKind.i64 (b i (5 : Nat))]) i) (4 : Nat)), D.int IntKind.i64 (jD ((fun (i : Nat) => [D.int IntKind.i64 (b i (0 : Nat)), D.int IntKind.i64 (b i (1 : Nat)), D.int IntKind.i64 (b i (2 : Nat)), D.int IntKind.i64 (b i (3 : Nat)), D.int IntKind.i64 (b i (4 : Nat)), D.int IntKind.i64 (b i (5 : Nat))]) i) (5 : Nat))]) ∧ V.d (D.bool !leZ (0 : Int) (idxN n fun (i : Nat) => !bxI (fun (i j : Nat) => jD [D.int IntKind.i64 (b i (0 : Nat)), D.int IntKind.i64 (b i (1 : Nat)), D.int IntKind.i64 (b i (2 : Nat)), D.int IntKind.i64 (b i (3 : Nat)), D.int IntKind.i64 (b i (4 : Nat)), D.int IntKind.i64 (b i (5 : Nat))] j) i)) = vb (allBx n b)) (by as_aux_lemma => kernel_rfl) ?_
  refine ⟨⟨rfl, rfl, fun _ => rfl⟩, ?_⟩
  rw [idxN_all]
  simp only [Bool.not_not]
  rfl
/-- A function of a row of boxes, by the row. -/
noncomputable def rowbP (g : Nat → (Nat → Nat → Int) → V) : List V → Option (List Ob × V) := fun xs => match xs with
  | [.d (.rows n e f)] => some ([.p (e = 6 ∧ okBx f)], g n fun i j => jD (f i) j)
  | _ => none
theorem rowbP_ok {k : FuncId} {g : Nat → (Nat → Nat → Int) → V} (h : ∀ n b, Fn E k [rb n b] (g n b)) : ∀ args l r, rowbP g args = some (l, r) → obsL l → Fn E k args r := fun args l r e hl => by
  unfold rowbP at e; split at e
  · cases e
    obtain ⟨rfl, h'⟩ := (obsL_cons hl).1
    rw [rb_of h']
    exact h _ _
  · cases e
end Go.Proofs.Ytmgckodihnmjoaa
