/-
  Numbers of 16 places: rows of them that may be: what the code comes to. Conditions: none.
-/
import Derived.Test.YthkoinngmcpjgaaTab
import Derived.Test.YthkoinngmcpjgaaKD
set_option linter.unusedVariables false
set_option linter.unusedSimpArgs false
set_option maxRecDepth 20000
namespace Go.Proofs.Ythkoinngmcpjgaa
open Oc
set_option maxRecDepth 100000
noncomputable def cs0 : Cs := csN E.tab eqs fns none (csP []) 10
theorem cs0_ok : CsOk E cs0 := csN_ok fns_ok eqs_ok (csP_ok PtOk.nil) 10
/-- May a number be? -/
def okN (x : Int) : Bool := decide (-2147483648 ≤ x ∧ x ≤ 2147483647)
theorem okN_iff {x : Int} : okN x = true ↔ -2147483648 ≤ x ∧ x ≤ 2147483647 := by simp [okN]
/-- All numbers of a row. -/
def allN (n : Nat) (p : Nat → Bool) : Bool := match n with | 0 => true | k + 1 => allN k p && p k
theorem allN_iff {n : Nat} {p : Nat → Bool} : allN n p = true ↔ ∀ i, i < n → p i = true := by
  induction n with
  | zero => simp [allN]
  | succ n ih =>
    simp only [allN, Bool.and_eq_true, ih]
    exact ⟨fun ⟨h1, h2⟩ i hi => by
      rcases Nat.lt_or_ge i n with h | h
      · exact h1 i h
      · obtain rfl : i = n := by omega
        exact h2, fun h => ⟨fun i hi => h i (by omega), h n (by omega)⟩⟩
theorem allN_false {n k : Nat} {p : Nat → Bool} (hk : k < n) (h : p k = false) : allN n p = false := by
  rcases hb : allN n p with _ | _
  · rfl
  · rw [allN_iff] at hb; rw [hb k hk] at h; cases h
/-- The first place of which something holds. -/
def idxN (n : Nat) (p : Nat → Bool) : Int := match (List.range n).find? p with | some i => i | none => -1
theorem idxN_hit {n k : Nat} {p : Nat → Bool} (hk : k < n) (h : ∀ i, i < k → p i = false) (hp : p k = true) : idxN n p = k := by
  unfold idxN
  have : (List.range n).find? p = some k := by
    rw [List.find?_range_eq_some]; exact ⟨hp, by simpa using hk, fun j hj => by simpa using h j hj⟩
  rw [this]
theorem idxN_miss {n : Nat} {p : Nat → Bool} (h : ∀ i, i < n → p i = false) : idxN n p = -1 := by
  unfold idxN
  have : (List.range n).find? p = none := by rw [List.find?_eq_none]; intro i hi; simpa using h i (by simpa using hi)
  rw [this]
theorem idxN_all {n : Nat} {p : Nat → Bool} : (!leZ 0 (idxN n p)) = allN n (fun i => !p i) := by
  by_cases h : ∀ i, i < n → p i = false
  · rw [idxN_miss h, allN_iff.2 (fun i hi => by rw [h i hi]; rfl)]; rfl
  · have h' : ∃ i, i < n ∧ p i = true := by
      refine Classical.byContradiction fun hn => h fun i hi => ?_
      cases hp : p i
      · rfl
      · exact absurd ⟨i, hi, hp⟩ hn
    obtain ⟨i, hi, hp⟩ := h'
    rw [allN_false hi (by rw [hp]; rfl)]
    unfold idxN
    have : ∃ j, (List.range n).find? p = some j := by
      cases hf : (List.range n).find? p with
      | some j => exact ⟨j, rfl⟩
      | none => rw [List.find?_eq_none] at hf; exact absurd hp (by simpa using hf i (by simpa using hi))
    obtain ⟨j, hj⟩ := this
    rw [hj, leZ_eq]
    simp
def rightF (n : Nat) (x : Nat → Int) : Bool := allN n (fun i => okN (x i))
/-- A row of numbers. -/
def rw_ (n : Nat) (x : Nat → Int) : V := .d (.rows n 1 fun i => [.int .i64 (x i)])
def sR (n : Nat) (x : Nat → Int) (k : Nat) : Slots := [(0, rw_ n x), (1, .d (.fn 165)), (7, vi n), (8, vi k)]
def iR (n : Nat) (x : Nat → Int) (k : Nat) : Prop := k ≤ n ∧ ∀ i, i < k → (!okN (x i)) = false
theorem okN_z (x : Int) : (bif leZ (-2147483648) x then leZ x 2147483647 else false) = okN x := by
  simp only [leZ_eq, okN]; rw [Bool.decide_and]; cases decide (-2147483648 ≤ x) <;> rfl
theorem idx_r (n : Nat) (x : Nat → Int) : Fn E 190 [rw_ n x, .d (.fn 165)] (vi (idxN n fun i => !okN (x i))) := by
  refine Fn.of_TS ok190 rfl rfl rfl fun hr => ?_
  have hn : n ≤ 9223372036854775807 := hr.1.1
  refine TS.seq rfl ?_
  refine TS.run [] ok190.ord eqs_ok cs0_ok (by repeat (first | exact QF.noPanic | exact QCF.noPanic | refine TSR.noPanic ?_ | refine NoPanic.thenP ?_ | refine NoPanic.inB ?_)) (by first | exact .inl (by as_aux_lemma => kernel_rfl) | exact .inr (by as_aux_lemma => kernel_rfl)) ?_
  refine @vc_of _ (TS E (FnI.nt I190) (0 : Nat) (sub (FnI.code I190) [true]) [((0 : Nat), V.d (D.rows n (1 : Nat) fun (i : Nat) => [D.int IntKind.i64 (x i)])), ((1 : Nat), V.d (D.fn (165 : Nat)))] { n := (0 : Nat), b := [] } (QF (Env.tab E) (FnI.res I190) (vi (idxN n fun (i : Nat) => !okN (x i))))) (by as_aux_lemma => kernel_rfl) ?_
  refine TS.seq rfl ?_
  refine TS.seq rfl ?_
  refine TS.run [] ok190.ord eqs_ok cs0_ok (by repeat (first | exact QF.noPanic | exact QCF.noPanic | refine TSR.noPanic ?_ | refine NoPanic.thenP ?_ | refine NoPanic.inB ?_)) (by first | exact .inl (by as_aux_lemma => kernel_rfl) | exact .inr (by as_aux_lemma => kernel_rfl)) ?_
  refine @vc_of _ (TS E (FnI.nt I190) (0 : Nat) (sub (FnI.code I190) [true, false, true]) [((0 : Nat), V.d (D.rows n (1 : Nat) fun (i : Nat) => [D.int IntKind.i64 (x i)])), ((1 : Nat), V.d (D.fn (165 : Nat))), ((7 : Nat), vI (↑n : Int)), ((8 : Nat), vI (0 : Int))] { n := (0 : Nat), b := [] } (thenP (fun (s' : Slots) (h' : Hp) => TS E (FnI.nt I190) (0 : Nat) (sub (FnI.code I190) ([true] ++ [true])) s' h' (QF (Env.tab E) (FnI.res I190) (vi (idxN n fun (i : Nat) => !okN (x i))))) (QF (Env.tab E) (FnI.res I190) (vi (idxN n fun (i : Nat) => !okN (x i)))))) (by as_aux_lemma => kernel_rfl) ?_
  refine TS.block (i := 0) rfl ?_
  refine TS.loop (sR n x) (fun _ => ⟨0, []⟩) (iR n x) (fun k => n - k) 0 rfl ⟨?_, BSub.nil _, rfl, rfl, Nat.zero_le _⟩ (Nat.zero_le _) ?_ (fun k hk => ?_)
  · (repeat (first | exact SLe.nil _ | refine SLe.cons rfl (VLe.refl _) ?_))
  · exact ⟨Nat.zero_le _, fun i hi => by omega⟩
  refine TS.run [] ok190.ord eqs_ok cs0_ok (by repeat (first | exact QF.noPanic | exact QCF.noPanic | refine TSR.noPanic ?_ | refine NoPanic.thenP ?_ | refine NoPanic.inB ?_)) (by first | exact .inl (by as_aux_lemma => kernel_rfl) | exact .inr (by as_aux_lemma => kernel_rfl)) ?_
  refine @vc_of _ (bif ltZ (↑k : Int) (↑n : Int) then bif inI (↑k : Int) n then bif !bif leZ (-2147483648 : Int) (x (Int.toNat (↑k : Int))) then leZ (x (Int.toNat (↑k : Int))) (2147483647 : Int) else false then vI (↑k : Int) = vi (idxN n fun (i : Nat) => !okN (x i)) else bif inRb IntKind.i64 ((↑k : Int) + (1 : Int)) then Again (0 : Nat) (sR n x) (fun (x : Nat) => { n := (0 : Nat), b := [] }) (iR n x) (fun (k : Nat) => n - k) k [((0 : Nat), V.d (D.rows n (1 : Nat) fun (i : Nat) => [D.int IntKind.i64 (x i)])), ((1 : Nat), V.d (D.fn (165 : Nat))), ((7 : Nat), vI (↑n : Int)), ((8 : Nat), vI ((↑k : Int) + (1 : Int)))] { n := (0 : Nat), b := [] } else False else False else TS E (FnI.nt I190) (0 : Nat) (sub (FnI.code I190) [true, true]) [((9 : Nat), V.d (D.bool false)), ((0 : Nat), V.d (D.rows n (1 : Nat) fun (i : Nat) => [D.int IntKind.i64 (x i)])), ((1 : Nat), V.d (D.fn (165 : Nat))), ((7 : Nat), vI (↑n : Int)), ((8 : Nat), vI (↑k : Int)), ((9 : Nat), V.d (D.bool (ltZ (↑k : Int) (↑n : Int))))] { n := (0 : Nat), b := [] } (QF (Env.tab E) (FnI.res I190) (vi (idxN n fun (i : Nat) => !okN (x i))))) (by as_aux_lemma => kernel_rfl) ?_
  simp only [Int.toNat_natCast, okN_z]
  obtain ⟨hk1, hk2⟩ := hk
  refine way_iff.2 ⟨fun hc => ?_, fun hc => ?_⟩
  · simp only [ltZ_eq, decide_eq_true_eq] at hc
    refine need_iff.2 ⟨by simp only [inI, ltZ_eq, leZ_eq, Bool.and_eq_true, decide_eq_true_eq]; omega, ?_⟩
    refine way_iff.2 ⟨fun hp => ?_, fun hp => ?_⟩
    · rw [idxN_hit (by omega) hk2 hp]
    · refine need_iff.2 ⟨by simp only [inRb, loK, hiK, leZ_eq, Bool.and_eq_true, decide_eq_true_eq]; omega, ?_⟩
      refine ⟨k + 1, ⟨by omega, fun i hi => ?_⟩, by omega, Nat.le_refl _, ⟨?_, BSub.nil _, rfl, rfl, Nat.zero_le _⟩⟩
      · rcases Nat.lt_or_ge i k with h | h
        · exact hk2 i h
        · obtain rfl : i = k := by omega
          exact hp
      · (repeat (first | exact SLe.nil _ | refine SLe.cons rfl (VLe.refl _) ?_))
  · simp only [ltZ_eq, decide_eq_false_iff_not] at hc
    refine TS.run [] ok190.ord eqs_ok cs0_ok (by repeat (first | exact QF.noPanic | exact QCF.noPanic | refine TSR.noPanic ?_ | refine NoPanic.thenP ?_ | refine NoPanic.inB ?_)) (by first | exact .inl (by as_aux_lemma => kernel_rfl) | exact .inr (by as_aux_lemma => kernel_rfl)) ?_
    refine @vc_of _ (vI (-1 : Int) = vi (idxN n fun (i : Nat) => !okN (x i))) (by as_aux_lemma => kernel_rfl) ?_
    rw [idxN_miss (fun i hi => hk2 i (by omega))]
/-- A cell's number. -/
def iD (l : List D) : Int := match l with | .int _ x :: _ => x | _ => 0
noncomputable def ptI : List (Nat × (List V → Option (List Ob × V))) := [
  (190, fun xs => match xs with
    | [.d (.rows n e f), .d (.fn g)] => some ([.p (e = 1 ∧ g = 165 ∧ ∀ i, f i = [.int .i64 (iD (f i))])], vi (idxN n fun i => !okN (iD (f i))))
    | _ => none)]
theorem ptI_ok : PtOk E ptI := by
  refine PtOk.cons ok190.en (fun args l r h hl => ?_) PtOk.nil
  split at h
  · rename_i n e f g
    cases h
    obtain ⟨rfl, rfl, h⟩ := (obsL_cons hl).1
    have := idx_r n fun i => iD (f i)
    rwa [rw_, show (fun i => [D.int .i64 (iD (f i))]) = f from (funext h).symm] at this
  · cases h
noncomputable def csI : Cs := csN E.tab eqs fns none (csP ptI) 10
theorem csI_ok : CsOk E csI := csN_ok fns_ok eqs_ok (csP_ok ptI_ok) 10
theorem fr_r (n : Nat) (x : Nat → Int) : Fn E 129 [rw_ n x] (vb (rightF n x)) := by
  refine Fn.of_vc ok129 eqs_ok csI_ok rfl rfl rfl (by first | exact .inl (by as_aux_lemma => kernel_rfl) | exact .inr (by as_aux_lemma => kernel_rfl)) fun hr => ?_
  refine @vc_of _ (((1 : Nat) = (1 : Nat) ∧ (165 : Nat) = (165 : FuncId) ∧ ∀ (i : Nat), [D.int IntKind.i64 (x i)] = [D.int IntKind.i64 (iD ((fun (i : Nat) => [D.int IntKind.i64 (x i)]) i))]) ∧ V.d (D.bool !leZ (0 : Int) (idxN n fun (i : Nat) => !okN (iD [D.int IntKind.i64 (x i)]))) = vb (rightF n x)) (by as_aux_lemma => kernel_rfl) ?_
  refine ⟨⟨rfl, rfl, fun _ => rfl⟩, ?_⟩
  rw [idxN_all]
  simp only [Bool.not_not]
  rfl
noncomputable def ptR : List (Nat × (List V → Option (List Ob × V))) := [
  (129, fun xs => match xs with
    | [.d (.rows n e f)] => some ([.p (e = 1 ∧ ∀ i, f i = [.int .i64 (iD (f i))])], vb (rightF n fun i => iD (f i)))
    | _ => none)]
theorem ptR_ok : PtOk E ptR := by
  refine PtOk.cons ok129.en (fun args l r h hl => ?_) PtOk.nil
  split at h
  · rename_i n e f
    cases h
    obtain ⟨rfl, h⟩ := (obsL_cons hl).1
    have := fr_r n fun i => iD (f i)
    rwa [rw_, show (fun i => [D.int .i64 (iD (f i))]) = f from (funext h).symm] at this
  · cases h
noncomputable def csR : Cs := csN E.tab eqs fns none (csP ptR) 10
theorem csR_ok : CsOk E csR := csN_ok fns_ok eqs_ok (csP_ok ptR_ok) 10
theorem rr_r (n : Nat) (x : Nat → Int) : Fn E 134 [rw_ n x] (vb (rightF n x)) := by
  refine Fn.of_TS ok134 rfl rfl rfl fun hr => ?_
  have hn : n ≤ 9223372036854775807 := hr.1.1
  refine TS.seq rfl ?_
  refine TS.run [] ok134.ord eqs_ok csR_ok (by repeat (first | exact QF.noPanic | exact QCF.noPanic | refine TSR.noPanic ?_ | refine NoPanic.thenP ?_ | refine NoPanic.inB ?_)) (by first | exact .inl (by as_aux_lemma => kernel_rfl) | exact .inr (by as_aux_lemma => kernel_rfl)) ?_
  refine @vc_of _ (TS E (FnI.nt I134) (0 : Nat) (sub (FnI.code I134) [true]) [((0 : Nat), V.d (D.rows n (1 : Nat) fun (i : Nat) => [D.int IntKind.i64 (x i)]))] { n := (0 : Nat), b := [] } (QF (Env.tab E) (FnI.res I134) (vb (rightF n x)))) (by as_aux_lemma => kernel_rfl) ?_
  refine TS.seq rfl ?_
  refine TS.seq rfl ?_
  refine TS.run [] ok134.ord eqs_ok csR_ok (by repeat (first | exact QF.noPanic | exact QCF.noPanic | refine TSR.noPanic ?_ | refine NoPanic.thenP ?_ | refine NoPanic.inB ?_)) (by first | exact .inl (by as_aux_lemma => kernel_rfl) | exact .inr (by as_aux_lemma => kernel_rfl)) ?_
  refine @vc_of _ (TS E (FnI.nt I134) (0 : Nat) (sub (FnI.code I134) [true, false, true]) [((0 : Nat), V.d (D.rows n (1 : Nat) fun (i : Nat) => [D.int IntKind.i64 (x i)])), ((3 : Nat), vI (0 : Int))] { n := (0 : Nat), b := [] } (thenP (fun (s' : Slots) (h' : Hp) => TS E (FnI.nt I134) (0 : Nat) (sub (FnI.code I134) ([true] ++ [true])) s' h' (QF (Env.tab E) (FnI.res I134) (vb (rightF n x)))) (QF (Env.tab E) (FnI.res I134) (vb (rightF n x))))) (by as_aux_lemma => kernel_rfl) ?_
  refine TS.block (i := 0) rfl ?_
  refine TS.loop (fun k : Nat => [(0, rw_ n x), (3, vi k)]) (fun _ => ⟨0, []⟩) (fun k => k ≤ n ∧ ∀ i, i < k → okN (x i) = true) (fun k => n - k) 0 rfl ⟨?_, BSub.nil _, rfl, rfl, Nat.zero_le _⟩ (Nat.zero_le _) ⟨Nat.zero_le _, fun i hi => by omega⟩ (fun k hk => ?_)
  · (repeat (first | exact SLe.nil _ | refine SLe.cons rfl (VLe.refl _) ?_))
  refine TS.run [] ok134.ord eqs_ok csR_ok (by repeat (first | exact QF.noPanic | exact QCF.noPanic | refine TSR.noPanic ?_ | refine NoPanic.thenP ?_ | refine NoPanic.inB ?_)) (by first | exact .inl (by as_aux_lemma => kernel_rfl) | exact .inr (by as_aux_lemma => kernel_rfl)) ?_
  refine @vc_of _ (bif ltZ (↑k : Int) (↑n : Int) then bif inI (↑k : Int) n then bif !bif leZ (-2147483648 : Int) (x (Int.toNat (↑k : Int))) then leZ (x (Int.toNat (↑k : Int))) (2147483647 : Int) else false then V.d (D.bool false) = vb (rightF n x) else bif inRb IntKind.i64 ((↑k : Int) + (1 : Int)) then Again (0 : Nat) (fun (k : Nat) => [((0 : Nat), rw_ n x), ((3 : Nat), vi (↑k : Int))]) (fun (x : Nat) => { n := (0 : Nat), b := [] }) (fun (k : Nat) => k ≤ n ∧ ∀ (i : Nat), i < k → okN (x i) = true) (fun (k : Nat) => n - k) k [((0 : Nat), V.d (D.rows n (1 : Nat) fun (i : Nat) => [D.int IntKind.i64 (x i)])), ((3 : Nat), vI ((↑k : Int) + (1 : Int)))] { n := (0 : Nat), b := [] } else False else False else TS E (FnI.nt I134) (0 : Nat) (sub (FnI.code I134) [true, true]) [((8 : Nat), V.d (D.bool false)), ((0 : Nat), V.d (D.rows n (1 : Nat) fun (i : Nat) => [D.int IntKind.i64 (x i)])), ((3 : Nat), vI (↑k : Int)), ((8 : Nat), V.d (D.bool (ltZ (↑k : Int) (↑n : Int))))] { n := (0 : Nat), b := [] } (QF (Env.tab E) (FnI.res I134) (vb (rightF n x)))) (by as_aux_lemma => kernel_rfl) ?_
  obtain ⟨hk1, hk2⟩ := hk
  simp only [Int.toNat_natCast, okN_z]
  refine way_iff.2 ⟨fun hl => ?_, fun hl => ?_⟩
  · simp only [ltZ_eq, decide_eq_true_eq] at hl
    refine need_iff.2 ⟨by simp only [inI, ltZ_eq, leZ_eq, Bool.and_eq_true, decide_eq_true_eq]; omega, ?_⟩
    refine way_iff.2 ⟨fun hp => ?_, fun hp => ?_⟩
    · rw [rightF, allN_false (k := k) (by omega) (by simpa using hp)]
    · refine need_iff.2 ⟨by simp only [inRb, loK, hiK, leZ_eq, Bool.and_eq_true, decide_eq_true_eq]; omega, ?_⟩
      refine ⟨k + 1, ⟨by omega, fun i hi => ?_⟩, by omega, Nat.le_refl _, ⟨?_, BSub.nil _, rfl, rfl, Nat.zero_le _⟩⟩
      · rcases Nat.lt_or_ge i k with h | h
        · exact hk2 i h
        · obtain rfl : i = k := by omega
          simpa using hp
      · (repeat (first | exact SLe.nil _ | refine SLe.cons rfl (VLe.refl _) ?_))
  · simp only [ltZ_eq, decide_eq_false_iff_not] at hl
    refine TS.run [] ok134.ord eqs_ok csR_ok (by repeat (first | exact QF.noPanic | exact QCF.noPanic | refine TSR.noPanic ?_ | refine NoPanic.thenP ?_ | refine NoPanic.inB ?_)) (by first | exact .inl (by as_aux_lemma => kernel_rfl) | exact .inr (by as_aux_lemma => kernel_rfl)) ?_
    refine @vc_of _ (V.d (D.bool true) = vb (rightF n x)) (by as_aux_lemma => kernel_rfl) ?_
    rw [rightF, allN_iff.2 (fun i hi => hk2 i (by omega))]
def nthI (l : List Int) (i : Nat) : Int := l.getD i 0
def rightL (l : List Int) : Bool := rightF l.length (nthI l)
def iC (d : D) : Int := match d with | .int _ x => x | _ => 0
/-- Numbers out of cells. -/
noncomputable def intsC (l : List D) : List Int := List.rec [] (fun d _ ih => iC d :: ih) l
noncomputable def cellsI (l : List Int) : List D := List.rec [] (fun x _ ih => .int .i64 x :: ih) l
noncomputable def allI (l : List D) : Bool := List.rec true (fun d _ ih => match d with | .int .i64 _ => ih | _ => false) l
theorem allI_ok {l : List D} (h : allI l = true) : l = cellsI (intsC l) := by
  induction l with
  | nil => rfl
  | cons d l ih =>
    cases d with
    | int q x =>
      cases q with
      | i64 => exact congrArg (_ :: ·) (ih h)
      | _ => cases h
    | _ => cases h
theorem intsC_len (l : List D) : (intsC l).length = l.length := by
  induction l with
  | nil => rfl
  | cons d l ih => exact congrArg (· + 1) ih
theorem cells_flat (l : List Int) : cellsI l = flatN l.length fun i => [.int .i64 (nthI l i)] := by
  induction l with
  | nil => rfl
  | cons x l ih => rw [List.length_cons, flatN_succ]; exact congrArg (D.int .i64 x :: ·) ih
theorem Fn.leA {E : Env} {f : FuncId} {xs ys : List V} {r : V} (hp : pureL xs = true) (l : AL xs ys) (c : Fn E f ys r) : Fn E f xs r := ⟨c.1, hp, Call.leA l c.2.2⟩
theorem row_le {n : Nat} {cs : List D} (hn : n = cs.length) (h : cs = cellsI (intsC cs)) : AL [V.d (.lst n cs)] [rw_ (intsC cs).length (nthI (intsC cs))] := by
  subst hn
  refine .cons ?_ .nil
  have e : cs.length = (intsC cs).length := (intsC_len cs).symm
  rw [e]
  exact VLe.ofL (h.trans (cells_flat (intsC cs))) (fun i hi => rfl)
/-- A function of a row of numbers, by the row's cells. -/
noncomputable def rowP (g : Nat → (Nat → Int) → V) (k : List Int → V) : List V → Option (List Ob × V) := fun xs => match xs with
  | [.d (.rows n e f)] => some ([.p (e = 1 ∧ ∀ i, f i = [.int .i64 (iD (f i))])], g n fun i => iD (f i))
  | [.d (.lst n cs)] => match Nat.beq n cs.length && allI cs with
    | true => some ([], k (intsC cs))
    | false => none
  | _ => none
theorem rowP_ok {E : Env} {f : FuncId} {g : Nat → (Nat → Int) → V} {k : List Int → V} (h : ∀ n x, Fn E f [rw_ n x] (g n x)) (hk : ∀ l, k l = g l.length (nthI l)) : ∀ args l r, rowP g k args = some (l, r) → obsL l → Fn E f args r := fun args l r e hl => by
  unfold rowP at e
  split at e
  · rename_i n e' f'
    cases e
    obtain ⟨rfl, h'⟩ := (obsL_cons hl).1
    have := h n fun i => iD (f' i)
    rwa [rw_, show (fun i => [D.int .i64 (iD (f' i))]) = f' from (funext h').symm] at this
  · rename_i n cs
    split at e
    · rename_i hb
      cases e
      obtain ⟨h1, h2⟩ := and_split hb
      rw [hk]
      exact Fn.leA rfl (row_le (Nat.eq_of_beq_eq_true h1) (allI_ok h2)) (h _ _)
    · cases e
  · cases e
theorem obsL_one {P : Prop} (h : obsL [.p P]) : P := (obsL_cons h).1
theorem fin_ (x : Int) : Fn E 166 [vi x] (vb (okN x)) := by
  refine Fn.of_vc ok166 eqs_ok cs0_ok rfl rfl rfl (by first | exact .inl (by as_aux_lemma => kernel_rfl) | exact .inr (by as_aux_lemma => kernel_rfl)) fun hr => ?_
  refine @vc_of _ (V.d (D.bool (bif leZ (-2147483648 : Int) x then leZ x (2147483647 : Int) else false)) = vb (okN x)) (by as_aux_lemma => kernel_rfl) ?_
  rw [okN_z]
theorem rone (x : Int) : Fn E 174 [vi x] (vb (okN x)) := by
  refine Fn.of_vc ok174 eqs_ok cs0_ok rfl rfl rfl (by first | exact .inl (by as_aux_lemma => kernel_rfl) | exact .inr (by as_aux_lemma => kernel_rfl)) fun hr => ?_
  refine @vc_of _ (V.d (D.bool (bif leZ (-2147483648 : Int) x then leZ x (2147483647 : Int) else false)) = vb (okN x)) (by as_aux_lemma => kernel_rfl) ?_
  rw [okN_z]
noncomputable def oneP (k : Int → V) : List V → Option (List Ob × V) := fun xs => match xs with
  | [.d (.int .i64 x)] => some ([], k x)
  | _ => none
theorem oneP_ok {E : Env} {f : FuncId} {k : Int → V} (h : ∀ x, Fn E f [vi x] (k x)) : ∀ args l r, oneP k args = some (l, r) → obsL l → Fn E f args r := fun args l r e hl => by
  unfold oneP at e
  split at e
  · cases e; exact h _
  · cases e
noncomputable def ptB : List (Nat × (List V → Option (List Ob × V))) := [
  (129, rowP (fun n x => vb (rightF n x)) (fun l => vb (rightL l))),
  (134, rowP (fun n x => vb (rightF n x)) (fun l => vb (rightL l))),
  (166, oneP fun x => vb (okN x)), (174, oneP fun x => vb (okN x))]
theorem ptB_ok : PtOk E ptB :=
  PtOk.cons ok129.en (rowP_ok fr_r fun _ => rfl) (PtOk.cons ok134.en (rowP_ok rr_r fun _ => rfl) (PtOk.cons ok166.en (oneP_ok fin_) (PtOk.cons ok174.en (oneP_ok rone) PtOk.nil)))
noncomputable def csB : Cs := csN E.tab eqs fns none (csP ptB) 10
theorem csB_ok : CsOk E csB := csN_ok fns_ok eqs_ok (csP_ok ptB_ok) 10
end Go.Proofs.Ythkoinngmcpjgaa
