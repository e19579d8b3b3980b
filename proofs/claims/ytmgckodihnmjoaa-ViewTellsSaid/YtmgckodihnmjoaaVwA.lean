/-
  Rows of planes: whether all may be, and their clones; whether a view may be: what the code comes to. Conditions: none.
-/
import Derived.Test.YtmgckodihnmjoaaShG
import Derived.Test.YtmgckodihnmjoaaKD
set_option linter.unusedVariables false
set_option linter.unusedSimpArgs false
set_option maxRecDepth 20000
namespace Go.Proofs.Ytmgckodihnmjoaa
open Oc
set_option maxRecDepth 100000
/-- A row of planes. -/
def rp (n : Nat) (s : Nat → Nat → Int) : V := .d (.rows n 4 fun i => [.int .i64 (s i 0), .int .i64 (s i 1), .int .i64 (s i 2), .int .i64 (s i 3)])
def plI (s : Nat → Nat → Int) (i : Nat) : Bool := plR (s i 0) (s i 1) (s i 2) (s i 3)
theorem plclo (a b c d : Int) : Fn E 105 [pl a b c d] (vb (!plR a b c d)) := by
  refine Fn.of_vc ok105 eqs_ok csH_ok rfl rfl rfl (by first | exact .inl (by as_aux_lemma => kernel_rfl) | exact .inr (by as_aux_lemma => kernel_rfl)) fun hr => ?_
  refine @vc_of _ ((bif !rightL [a, b, c] then True else True) ∧ V.d (D.bool (bif !!leZ (0 : Int) (bif !rightL [a, b, c] then (0 : Int) else (-1 : Int)) then true else !rightL [d])) = vb !plR a b c d) (by as_aux_lemma => kernel_rfl) ?_
  try simp only [idx1, idx2, tt_, Bool.not_not, true_and, and_true, Bool.cond_self]
  unfold plR
  rw [Bool.not_not]
noncomputable def ptV1 : List (Nat × (List V → Option (List Ob × V))) := (105, fun xs => match xs with
    | [.agg [.d (.int .i64 a), .d (.int .i64 b), .d (.int .i64 c), .d (.int .i64 d)]] => some ([], vb (!plR a b c d))
    | _ => none) :: ptH
theorem ptV1_ok : PtOk E ptV1 := by
  refine PtOk.cons ok105.en (fun args l r e hl => ?_) (ptH_ok)
  · split at e
    · rename_i a b c d; cases e; exact plclo ..
    · cases e
noncomputable def csV1 : Cs := csN E.tab eqs fnS none (csP ptV1) 10
theorem csV1_ok : CsOk E csV1 := csN_ok fnS_ok eqs_ok (csP_ok ptV1_ok) 10
theorem idxp_r (n : Nat) (s : Nat → Nat → Int) : Fn E 122 [.d (.rows n 4 fun i => [.int .i64 (s i 0), .int .i64 (s i 1), .int .i64 (s i 2), .int .i64 (s i 3)]), .d (.fn 105)] (vi (idxN n fun i => !plI s i)) := by
  refine Fn.of_TS ok122 rfl rfl rfl fun hr => ?_
  have hn : n ≤ 9223372036854775807 := hr.1.1
  refine TS.seq rfl ?_
  refine TS.run [] ok122.ord eqs_ok csV1_ok (by repeat (first | exact QF.noPanic | exact QCF.noPanic | refine TSR.noPanic ?_ | refine NoPanic.thenP ?_ | refine NoPanic.inB ?_)) (by first | exact .inl (by as_aux_lemma => kernel_rfl) | exact .inr (by as_aux_lemma => kernel_rfl)) ?_
  refine @vc_of _ (TS E (FnI.nt I122) (0 : Nat) (sub (FnI.code I122) [true]) [((0 : Nat), V.d (D.rows n (4 : Nat) fun (i : Nat) => [D.int IntKind.i64 (s i (0 : Nat)), D.int IntKind.i64 (s i (1 : Nat)), D.int IntKind.i64 (s i (2 : Nat)), D.int IntKind.i64 (s i (3 : Nat))])), ((1 : Nat), V.d (D.fn (105 : Nat)))] { n := (0 : Nat), b := [] } (QF (Env.tab E) (FnI.res I122) (vi (idxN n fun (i : Nat) => !plI s i)))) (by as_aux_lemma => kernel_rfl) ?_
  refine TS.seq rfl ?_
  refine TS.seq rfl ?_
  refine TS.run [] ok122.ord eqs_ok csV1_ok (by repeat (first | exact QF.noPanic | exact QCF.noPanic | refine TSR.noPanic ?_ | refine NoPanic.thenP ?_ | refine NoPanic.inB ?_)) (by first | exact .inl (by as_aux_lemma => kernel_rfl) | exact .inr (by as_aux_lemma => kernel_rfl)) ?_
  refine @vc_of _ (TS E (FnI.nt I122) (0 : Nat) (sub (FnI.code I122) [true, false, true]) [((0 : Nat), V.d (D.rows n (4 : Nat) fun (i : Nat) => [D.int IntKind.i64 (s i (0 : Nat)), D.int IntKind.i64 (s i (1 : Nat)), D.int IntKind.i64 (s i (2 : Nat)), D.int IntKind.i64 (s i (3 : Nat))])), ((1 : Nat), V.d (D.fn (105 : Nat))), ((7 : Nat), V.d (D.int IntKind.i64 (↑n : Int))), ((8 : Nat), V.d (D.int IntKind.i64 (0 : Int)))] { n := (0 : Nat), b := [] } (thenP (fun (s' : Slots) (h' : Hp) => TS E (FnI.nt I122) (0 : Nat) (sub (FnI.code I122) ([true] ++ [true])) s' h' (QF (Env.tab E) (FnI.res I122) (vi (idxN n fun (i : Nat) => !plI s i)))) (QF (Env.tab E) (FnI.res I122) (vi (idxN n fun (i : Nat) => !plI s i))))) (by as_aux_lemma => kernel_rfl) ?_
  refine TS.block (i := 0) rfl ?_
  refine TS.loop (fun k : Nat => [(0, .d (.rows n 4 fun i => [.int .i64 (s i 0), .int .i64 (s i 1), .int .i64 (s i 2), .int .i64 (s i 3)])), (1, .d (.fn 105)), (7, vi n), (8, vi k)]) (fun _ => ⟨0, []⟩) (fun k => k ≤ n ∧ ∀ i, i < k → (!plI s i) = false) (fun k => n - k) 0 rfl ⟨?_, BSub.nil _, rfl, rfl, Nat.zero_le _⟩ (Nat.zero_le _) ⟨Nat.zero_le _, fun i hi => by omega⟩ (fun k hk => ?_)
  · (repeat (first | exact SLe.nil _ | refine SLe.cons rfl (VLe.refl _) ?_))
  refine TS.run [] ok122.ord eqs_ok csV1_ok (by repeat (first | exact QF.noPanic | exact QCF.noPanic | refine TSR.noPanic ?_ | refine NoPanic.thenP ?_ | refine NoPanic.inB ?_)) (by first | exact .inl (by as_aux_lemma => kernel_rfl) | exact .inr (by as_aux_lemma => kernel_rfl)) ?_
  refine @vc_of _ (bif ltZ (↑k : Int) (↑n : Int) then bif inI (↑k : Int) n then bif !plR (s (Int.toNat (↑k : Int)) (0 : Nat)) (s (Int.toNat (↑k : Int)) (1 : Nat)) (s (Int.toNat (↑k : Int)) (2 : Nat)) (s (Int.toNat (↑k : Int)) (3 : Nat)) then V.d (D.int IntKind.i64 (↑k : Int)) = vi (idxN n fun (i : Nat) => !plI s i) else bif inRb IntKind.i64 ((↑k : Int) + (1 : Int)) then Again (0 : Nat) (fun (k : Nat) => [((0 : Nat), V.d (D.rows n (4 : Nat) fun (i : Nat) => [D.int IntKind.i64 (s i (0 : Nat)), D.int IntKind.i64 (s i (1 : Nat)), D.int IntKind.i64 (s i (2 : Nat)), D.int IntKind.i64 (s i (3 : Nat))])), ((1 : Nat), V.d (D.fn (105 : FuncId))), ((7 : Nat), vi (↑n : Int)), ((8 : Nat), vi (↑k : Int))]) (fun (x : Nat) => { n := (0 : Nat), b := [] }) (fun (k : Nat) => k ≤ n ∧ ∀ (i : Nat), i < k → (!plI s i) = false) (fun (k : Nat) => n - k) k [((0 : Nat), V.d (D.rows n (4 : Nat) fun (i : Nat) => [D.int IntKind.i64 (s i (0 : Nat)), D.int IntKind.i64 (s i (1 : Nat)), D.int IntKind.i64 (s i (2 : Nat)), D.int IntKind.i64 (s i (3 : Nat))])), ((1 : Nat), V.d (D.fn (105 : Nat))), ((7 : Nat), V.d (D.int IntKind.i64 (↑n : Int))), ((8 : Nat), V.d (D.int IntKind.i64 ((↑k : Int) + (1 : Int))))] { n := (0 : Nat), b := [] } else False else False else TS E (FnI.nt I122) (0 : Nat) (sub (FnI.code I122) [true, true]) [((9 : Nat), V.d (D.bool false)), ((0 : Nat), V.d (D.rows n (4 : Nat) fun (i : Nat) => [D.int IntKind.i64 (s i (0 : Nat)), D.int IntKind.i64 (s i (1 : Nat)), D.int IntKind.i64 (s i (2 : Nat)), D.int IntKind.i64 (s i (3 : Nat))])), ((1 : Nat), V.d (D.fn (105 : Nat))), ((7 : Nat), V.d (D.int IntKind.i64 (↑n : Int))), ((8 : Nat), V.d (D.int IntKind.i64 (↑k : Int))), ((9 : Nat), V.d (D.bool (ltZ (↑k : Int) (↑n : Int))))] { n := (0 : Nat), b := [] } (QF (Env.tab E) (FnI.res I122) (vi (idxN n fun (i : Nat) => !plI s i)))) (by as_aux_lemma => kernel_rfl) ?_
  simp only [Int.toNat_natCast]
  obtain ⟨hk1, hk2⟩ := hk
  refine way_iff.2 ⟨fun hc => ?_, fun hc => ?_⟩
  · simp only [ltZ_eq, decide_eq_true_eq] at hc
    refine need_iff.2 ⟨(by simp only [inI, inRb, loK, hiK, ltZ_eq, leZ_eq, Bool.and_eq_true, decide_eq_true_eq]; omega), ?_⟩
    refine way_iff.2 ⟨fun hp => ?_, fun hp => ?_⟩
    · have hp : (!plI s k) = true := hp
      rw [idxN_hit (by omega) hk2 hp]
    · have hp : (!plI s k) = false := hp
      refine need_iff.2 ⟨(by simp only [inI, inRb, loK, hiK, ltZ_eq, leZ_eq, Bool.and_eq_true, decide_eq_true_eq]; omega), ?_⟩
      refine ⟨k + 1, ⟨by omega, fun i hi => ?_⟩, by omega, Nat.le_refl _, ⟨?_, BSub.nil _, rfl, rfl, Nat.zero_le _⟩⟩
      · rcases Nat.lt_or_ge i k with h | h
        · exact hk2 i h
        · obtain rfl : i = k := by omega
          exact hp
      · (repeat (first | exact SLe.nil _ | refine SLe.cons rfl (VLe.refl _) ?_))
  · simp only [ltZ_eq, decide_eq_false_iff_not] at hc
    refine TS.run [] ok122.ord eqs_ok csV1_ok (by repeat (first | exact QF.noPanic | exact QCF.noPanic | refine TSR.noPanic ?_ | refine NoPanic.thenP ?_ | refine NoPanic.inB ?_)) (by first | exact .inl (by as_aux_lemma => kernel_rfl) | exact .inr (by as_aux_lemma => kernel_rfl)) ?_
    refine @vc_of _ (V.d (D.int IntKind.i64 (-1 : Int)) = vi (idxN n fun (i : Nat) => !plI s i)) (by as_aux_lemma => kernel_rfl) ?_
    rw [idxN_miss (fun i hi => hk2 i (by omega))]
def okPl (f : Nat → List D) : Prop := ∀ i, f i = [.int .i64 (jD (f i) 0), .int .i64 (jD (f i) 1), .int .i64 (jD (f i) 2), .int .i64 (jD (f i) 3)]
theorem rp_of {n : Nat} {f : Nat → List D} (h : okPl f) : V.d (.rows n 4 f) = rp n fun i j => jD (f i) j := by
  unfold rp
  rw [show (fun i => [.int .i64 (jD (f i) 0), .int .i64 (jD (f i) 1), .int .i64 (jD (f i) 2), .int .i64 (jD (f i) 3)]) = f from (funext h).symm]
noncomputable def ptV2 : List (Nat × (List V → Option (List Ob × V))) := (122, fun xs => match xs with
    | [.d (.rows n e f), .d (.fn g)] => some ([.p (e = 4 ∧ g = 105 ∧ okPl f)], vi (idxN n fun i => !plI (fun i j => jD (f i) j) i))
    | _ => none) :: ptV1
theorem ptV2_ok : PtOk E ptV2 := by
  refine PtOk.cons ok122.en (fun args l r e hl => ?_) (ptV1_ok)
  · split at e
    · rename_i n e' f g; cases e; obtain ⟨rfl, rfl, h⟩ := (obsL_cons hl).1; rw [rp_of h]; exact idxp_r _ _
    · cases e
noncomputable def csV2 : Cs := csN E.tab eqs fnS none (csP ptV2) 10
theorem csV2_ok : CsOk E csV2 := csN_ok fnS_ok eqs_ok (csP_ok ptV2_ok) 10
theorem planes_r (n : Nat) (s : Nat → Nat → Int) : Fn E 53 [rp n s] (vb (allN n (plI s))) := by
  refine Fn.of_vc ok53 eqs_ok csV2_ok rfl rfl rfl (by first | exact .inl (by as_aux_lemma => kernel_rfl) | exact .inr (by as_aux_lemma => kernel_rfl)) fun hr => ?_
  refine @vc_of _ (((4 : Nat) = (4 : Nat) ∧ (105 : Nat) = (105 : FuncId) ∧ ∀ (i : Nat), [D.int IntKind.i64 (s i (0 : Nat)), D.int IntKind.i64 (s i (1 : Nat)), D.int IntKind.i64 (s i (2 : Nat)), D.int IntKind.i64 (s i (3 : Nat))] = [D.int IntKind.i64 (jD ((fun (i : Nat) => [D.int IntKind.i64 (s i (0 : Nat)), D.int IntKind.i64 (s i (1 : Nat)), D.int IntKind.i64 (s i (2 : Nat)), D.int IntKind.i64 (s i (3 : Nat))]) i) (0 : Nat)), D.int IntKind.i64 (jD ((fun (i : Nat) => [D.int IntKind.i64 (s i (0 : Nat)), D.int IntKind.i64 (s i (1 : Nat)), D.int IntKind.i64 (s i (2 : Nat)), D.int IntKind.i64 (s i (3 : Nat))]) i) (1 : Nat)), D.int IntKind.i64 (jD ((fun (i : Nat) => [D.int IntKind.i64 (s i (0 : Nat)), D.int IntKind.i64 (s i (1 : Nat)), D.int IntKind.i64 (s i (2 : Nat)), D.int IntKind.i64 (s i (3 : Nat))]) i) (2 : Nat)), D.int IntKind.i64 (jD ((fun (i : Nat) => [D.int IntKind.i64 (s i (0 : Nat)), D.int IntKind.i64 (s i (1 : Nat)), D.int IntKind.i64 (s i (2 : Nat)), D.int IntKind.i64 (s i (3 : Nat))]) i) (3 : Nat))]) ∧ V.d (D.bool !leZ (0 : Int) (idxN n fun (i : Nat) => !plI (fun (i j : Nat) => jD [D.int IntKind.i64 (s i (0 : Nat)), D.int IntKind.i64 (s i (1 : Nat)), D.int IntKind.i64 (s i (2 : Nat)), D.int IntKind.i64 (s i (3 : Nat))] j) i)) = vb (allN n (plI s))) (by as_aux_lemma => kernel_rfl) ?_
  refine ⟨⟨rfl, rfl, fun _ => rfl⟩, ?_⟩
  rw [idxN_all]
  simp only [Bool.not_not]
  rfl
/-- A clone of a row of planes. -/
theorem clone_p (n : Nat) (s : Nat → Nat → Int) (hn : n ≤ 100000) : Call E 110 [rp n s] ⟨0, []⟩ (fun r h => r = .sl 4 0 0 n ∧ h = ⟨1, [(0, some (.rows n 4 fun i => [.int .i64 (s i 0), .int .i64 (s i 1), .int .i64 (s i 2), .int .i64 (s i 3)]))]⟩) := by
  refine Call.nilCase (fun hn => ?_) ?_ (by decide)
  · subst hn
    refine Call.virtR (h1 := ⟨0, []⟩) ?_ 4 _
    refine Call.of_vc (ok110.more [4]) eqs_ok csV2_ok rfl (by first | exact .inl (by as_aux_lemma => kernel_rfl) | exact .inr (by as_aux_lemma => kernel_rfl)) fun hr => ?_
    refine @vc_of _ (CEnd (V.d D.nsl) { n := (0 : Nat), b := [] } (V.d D.nsl) { n := (0 : Nat), b := [] }) (by as_aux_lemma => kernel_rfl) ?_
    exact ⟨.refl _, Nat.le_refl _, BSub.nil _⟩
  · refine Call.of_TS ok110 rfl fun hr => ?_
    refine TS.seq rfl ?_
    refine TS.run [] ok110.ord eqs_ok csV2_ok (by repeat (first | exact QF.noPanic | exact QCF.noPanic | refine TSR.noPanic ?_ | refine NoPanic.thenP ?_ | refine NoPanic.inB ?_)) (by first | exact .inl (by as_aux_lemma => kernel_rfl) | exact .inr (by as_aux_lemma => kernel_rfl)) ?_
    refine @vc_of _ (TS E (FnI.nt I110) (Hp.n { n := (0 : Nat), b := [] }) (sub (FnI.code I110) [true]) [((0 : Nat), V.nn false (D.rows n (4 : Nat) fun (i : Nat) => [D.int IntKind.i64 (s i (0 : Nat)), D.int IntKind.i64 (s i (1 : Nat)), D.int IntKind.i64 (s i (2 : Nat)), D.int IntKind.i64 (s i (3 : Nat))]))] { n := (0 : Nat), b := [] } (QCF (Env.tab E) (FnI.res I110) (V.sl (4 : Nat) (0 : Nat) (0 : Nat) n) { n := (1 : Nat), b := [((0 : Nat), some (Blk.rows n (4 : Nat) fun (i : Nat) => [D.int IntKind.i64 (s i (0 : Nat)), D.int IntKind.i64 (s i (1 : Nat)), D.int IntKind.i64 (s i (2 : Nat)), D.int IntKind.i64 (s i (3 : Nat))]))] })) (by as_aux_lemma => kernel_rfl) ?_
    refine TS.seq rfl ?_
    refine TS.run [4] ok110.ord eqs_ok csV2_ok (by repeat (first | exact QF.noPanic | exact QCF.noPanic | refine TSR.noPanic ?_ | refine NoPanic.thenP ?_ | refine NoPanic.inB ?_)) (by first | exact .inl (by as_aux_lemma => kernel_rfl) | exact .inr (by as_aux_lemma => kernel_rfl)) ?_
    refine @vc_of _ (TS E (FnI.nt I110) (Hp.n { n := (0 : Nat), b := [] }) (sub (FnI.code I110) [true, true]) [((4 : Nat), V.d (D.bool false)), ((0 : Nat), V.nn false (D.rows n (4 : Nat) fun (i : Nat) => [D.int IntKind.i64 (s i (0 : Nat)), D.int IntKind.i64 (s i (1 : Nat)), D.int IntKind.i64 (s i (2 : Nat)), D.int IntKind.i64 (s i (3 : Nat))])), ((4 : Nat), V.d (D.bool false))] { n := (0 : Nat), b := [] } (QCF (Env.tab E) (FnI.res I110) (V.sl (4 : Nat) (0 : Nat) (0 : Nat) n) { n := (1 : Nat), b := [((0 : Nat), some (Blk.rows n (4 : Nat) fun (i : Nat) => [D.int IntKind.i64 (s i (0 : Nat)), D.int IntKind.i64 (s i (1 : Nat)), D.int IntKind.i64 (s i (2 : Nat)), D.int IntKind.i64 (s i (3 : Nat))]))] })) (by as_aux_lemma => kernel_rfl) ?_
    refine TS.weak (s' := [(0, rp n s)]) ?_ (SLe.nnD rfl (SLe.nil _))
    refine TS.run [] ok110.ord eqs_ok csV2_ok (by repeat (first | exact QF.noPanic | exact QCF.noPanic | refine TSR.noPanic ?_ | refine NoPanic.thenP ?_ | refine NoPanic.inB ?_)) (by first | exact .inl (by as_aux_lemma => kernel_rfl) | exact .inr (by as_aux_lemma => kernel_rfl)) ?_
    refine @vc_of _ (bif true && decide (((0 : Nat) + n) * Ty.bytes (Prod.snd ((71 : Nat), { d := TypeInfo.desc Try.t70, size := (4 : Nat), bytes := (32 : Nat), zero := TypeInfo.zero Try.t71 })) ≤ (140737488355328 : Nat)) then CEnd (V.sl (4 : Nat) (0 : Nat) (0 : Nat) ((0 : Nat) + n)) { n := (1 : Nat), b := [((0 : Nat), some (Blk.rows ((0 : Nat) + n) (4 : Nat) fun (a : Nat) => [D.int IntKind.i64 (s (a - (0 : Nat)) (0 : Nat)), D.int IntKind.i64 (s (a - (0 : Nat)) (1 : Nat)), D.int IntKind.i64 (s (a - (0 : Nat)) (2 : Nat)), D.int IntKind.i64 (s (a - (0 : Nat)) (3 : Nat))]))] } (V.sl (4 : Nat) (0 : Nat) (0 : Nat) n) { n := (1 : Nat), b := [((0 : Nat), some (Blk.rows n (4 : Nat) fun (i : Nat) => [D.int IntKind.i64 (s i (0 : Nat)), D.int IntKind.i64 (s i (1 : Nat)), D.int IntKind.i64 (s i (2 : Nat)), D.int IntKind.i64 (s i (3 : Nat))]))] } else False) (by as_aux_lemma => kernel_rfl) ?_
    refine need_iff.2 ⟨by rw [Bool.true_and]; exact decide_eq_true (show (0 + n) * 32 ≤ 140737488355328 by omega), ?_⟩
    simp only [Nat.zero_add]
    exact ⟨.refl _, Nat.le_refl _, BSub.cons rfl (BkLe.refl _) (BSub.nil _)⟩
end Go.Proofs.Ytmgckodihnmjoaa
