/-
  Numbers of 16 places: rows of them that may be, and their sums: what the code comes to. Conditions: none.
-/
import Derived.Test.YtmgckodihnmjoaaTab
import Derived.Test.YtmgckodihnmjoaaKD
set_option linter.unusedVariables false
set_option linter.unusedSimpArgs false
set_option maxRecDepth 20000
namespace Go.Proofs.Ytmgckodihnmjoaa
open Oc
set_option maxRecDepth 100000
noncomputable def cs0 : Cs := csN E.tab eqs fns none (csP []) 10
theorem cs0_ok : CsOk E cs0 := csN_ok fns_ok eqs_ok (csP_ok PtOk.nil) 10
/-- May a number be? -/
def okN (x : Int) : Bool := decide (-2147483648 ≤ x ∧ x ≤ 2147483647)
theorem okN_iff {x : Int} : okN x = true ↔ -2147483648 ≤ x ∧ x ≤ 2147483647 := by simp [okN]
/-- All numbers of a row. -/
def allN (n : Nat) (p : Nat → Bool) : Bool := match n with | 0 => true | k + 1 => allN k p && p k
theorem allN_iff {n : Nat} {p : Nat → Bool} : allN n p = true ↔ ∀ i, i < n → p i = true := by
  induction n with
  | zero => simp [allN]
  | succ n ih =>
    simp only [allN, Bool.and_eq_true, ih]
    exact ⟨fun ⟨h1, h2⟩ i hi => by
      rcases Nat.lt_or_ge i n with h | h
      · exact h1 i h
      · obtain rfl : i = n := by omega
        exact h2, fun h => ⟨fun i hi => h i (by omega), h n (by omega)⟩⟩
theorem allN_false {n k : Nat} {p : Nat → Bool} (hk : k < n) (h : p k = false) : allN n p = false := by
  rcases hb : allN n p with _ | _
  · rfl
  · rw [allN_iff] at hb; rw [hb k hk] at h; cases h
/-- The first place of which something holds. -/
def idxN (n : Nat) (p : Nat → Bool) : Int := match (List.range n).find? p with | some i => i | none => -1
theorem idxN_hit {n k : Nat} {p : Nat → Bool} (hk : k < n) (h : ∀ i, i < k → p i = false) (hp : p k = true) : idxN n p = k := by
  unfold idxN
  have : (List.range n).find? p = some k := by
    rw [List.find?_range_eq_some]; exact ⟨hp, by simpa using hk, fun j hj => by simpa using h j hj⟩
  rw [this]
theorem idxN_miss {n : Nat} {p : Nat → Bool} (h : ∀ i, i < n → p i = false) : idxN n p = -1 := by
  unfold idxN
  have : (List.range n).find? p = none := by rw [List.find?_eq_none]; intro i hi; simpa using h i (by simpa using hi)
  rw [this]
theorem idxN_all {n : Nat} {p : Nat → Bool} : (!leZ 0 (idxN n p)) = allN n (fun i => !p i) := by
  by_cases h : ∀ i, i < n → p i = false
  · rw [idxN_miss h, allN_iff.2 (fun i hi => by rw [h i hi]; rfl)]; rfl
  · have h' : ∃ i, i < n ∧ p i = true := by
      refine Classical.byContradiction fun hn => h fun i hi => ?_
      cases hp : p i
      · rfl
      · exact absurd ⟨i, hi, hp⟩ hn
    obtain ⟨i, hi, hp⟩ := h'
    rw [allN_false hi (by rw [hp]; rfl)]
    unfold idxN
    have : ∃ j, (List.range n).find? p = some j := by
      cases hf : (List.range n).find? p with
      | some j => exact ⟨j, rfl⟩
      | none => rw [List.find?_eq_none] at hf; exact absurd hp (by simpa using hf i (by simpa using hi))
    obtain ⟨j, hj⟩ := this
    rw [hj, leZ_eq]
    simp
def rightF (n : Nat) (x : Nat → Int) : Bool := allN n (fun i => okN (x i))
def sumF (n : Nat) (x : Nat → Int) : Int := match n with | 0 => 0 | k + 1 => sumF k x + x k
theorem sumF_b {n k : Nat} {x : Nat → Int} (h : rightF n x = true) (hk : k ≤ n) : -(2147483648 * (k : Int)) ≤ sumF k x ∧ sumF k x ≤ 2147483648 * (k : Int) := by
  induction k with
  | zero => simp [sumF]
  | succ k ih =>
    have h1 := okN_iff.1 (allN_iff.1 h k (by omega))
    have h2 := ih (by omega)
    simp only [sumF]
    omega
def addE (n : Nat) (x : Nat → Int) : Int := bif rightF n x && Nat.ble n 1024 then (bif okN (sumF n x) then 0 else 6) else 1
def addV (n : Nat) (x : Nat → Int) : Int := bif rightF n x && Nat.ble n 1024 then (bif okN (sumF n x) then sumF n x else 0) else 0
/-- A row of numbers. -/
def rw_ (n : Nat) (x : Nat → Int) : V := .d (.rows n 1 fun i => [.int .i64 (x i)])
def sR (n : Nat) (x : Nat → Int) (k : Nat) : Slots := [(0, rw_ n x), (1, .d (.fn 115)), (7, vi n), (8, vi k)]
def iR (n : Nat) (x : Nat → Int) (k : Nat) : Prop := k ≤ n ∧ ∀ i, i < k → (!okN (x i)) = false
theorem okN_z (x : Int) : (bif leZ (-2147483648) x then leZ x 2147483647 else false) = okN x := by
  simp only [leZ_eq, okN]; rw [Bool.decide_and]; cases decide (-2147483648 ≤ x) <;> rfl
theorem idx_r (n : Nat) (x : Nat → Int) : Fn E 123 [rw_ n x, .d (.fn 115)] (vi (idxN n fun i => !okN (x i))) := by
  refine Fn.of_TS ok123 rfl rfl rfl fun hr => ?_
  have hn : n ≤ 9223372036854775807 := hr.1.1
  refine TS.seq rfl ?_
  refine TS.run [] ok123.ord eqs_ok cs0_ok (by repeat (first | exact QF.noPanic | exact QCF.noPanic | refine TSR.noPanic ?_ | refine NoPanic.thenP ?_ | refine NoPanic.inB ?_)) (by first | exact .inl (by as_aux_lemma => kernel_rfl) | exact .inr (by as_aux_lemma => kernel_rfl)) ?_
  refine @vc_of _ (TS E (FnI.nt I123) (0 : Nat) (sub (FnI.code I123) [true]) [((0 : Nat), V.d (D.rows n (1 : Nat) fun (i : Nat) => [D.int IntKind.i64 (x i)])), ((1 : Nat), V.d (D.fn (115 : Nat)))] { n := (0 : Nat), b := [] } (QF (Env.tab E) (FnI.res I123) (vi (idxN n fun (i : Nat) => !okN (x i))))) (by as_aux_lemma => kernel_rfl) ?_
  refine TS.seq rfl ?_
  refine TS.seq rfl ?_
  refine TS.run [] ok123.ord eqs_ok cs0_ok (by repeat (first | exact QF.noPanic | exact QCF.noPanic | refine TSR.noPanic ?_ | refine NoPanic.thenP ?_ | refine NoPanic.inB ?_)) (by first | exact .inl (by as_aux_lemma => kernel_rfl) | exact .inr (by as_aux_lemma => kernel_rfl)) ?_
  refine @vc_of _ (TS E (FnI.nt I123) (0 : Nat) (sub (FnI.code I123) [true, false, true]) [((0 : Nat), V.d (D.rows n (1 : Nat) fun (i : Nat) => [D.int IntKind.i64 (x i)])), ((1 : Nat), V.d (D.fn (115 : Nat))), ((7 : Nat), V.d (D.int IntKind.i64 (↑n : Int))), ((8 : Nat), V.d (D.int IntKind.i64 (0 : Int)))] { n := (0 : Nat), b := [] } (thenP (fun (s' : Slots) (h' : Hp) => TS E (FnI.nt I123) (0 : Nat) (sub (FnI.code I123) ([true] ++ [true])) s' h' (QF (Env.tab E) (FnI.res I123) (vi (idxN n fun (i : Nat) => !okN (x i))))) (QF (Env.tab E) (FnI.res I123) (vi (idxN n fun (i : Nat) => !okN (x i)))))) (by as_aux_lemma => kernel_rfl) ?_
  refine TS.block (i := 0) rfl ?_
  refine TS.loop (sR n x) (fun _ => ⟨0, []⟩) (iR n x) (fun k => n - k) 0 rfl ⟨?_, BSub.nil _, rfl, rfl, Nat.zero_le _⟩ (Nat.zero_le _) ?_ (fun k hk => ?_)
  · (repeat (first | exact SLe.nil _ | refine SLe.cons rfl (VLe.refl _) ?_))
  · exact ⟨Nat.zero_le _, fun i hi => by omega⟩
  refine TS.run [] ok123.ord eqs_ok cs0_ok (by repeat (first | exact QF.noPanic | exact QCF.noPanic | refine TSR.noPanic ?_ | refine NoPanic.thenP ?_ | refine NoPanic.inB ?_)) (by first | exact .inl (by as_aux_lemma => kernel_rfl) | exact .inr (by as_aux_lemma => kernel_rfl)) ?_
  refine @vc_of _ (bif ltZ (↑k : Int) (↑n : Int) then bif inI (↑k : Int) n then bif !bif leZ (-2147483648 : Int) (x (Int.toNat (↑k : Int))) then leZ (x (Int.toNat (↑k : Int))) (2147483647 : Int) else false then V.d (D.int IntKind.i64 (↑k : Int)) = vi (idxN n fun (i : Nat) => !okN (x i)) else bif inRb IntKind.i64 ((↑k : Int) + (1 : Int)) then Again (0 : Nat) (sR n x) (fun (x : Nat) => { n := (0 : Nat), b := [] }) (iR n x) (fun (k : Nat) => n - k) k [((0 : Nat), V.d (D.rows n (1 : Nat) fun (i : Nat) => [D.int IntKind.i64 (x i)])), ((1 : Nat), V.d (D.fn (115 : Nat))), ((7 : Nat), V.d (D.int IntKind.i64 (↑n : Int))), ((8 : Nat), V.d (D.int IntKind.i64 ((↑k : Int) + (1 : Int))))] { n := (0 : Nat), b := [] } else False else False else TS E (FnI.nt I123) (0 : Nat) (sub (FnI.code I123) [true, true]) [((9 : Nat), V.d (D.bool false)), ((0 : Nat), V.d (D.rows n (1 : Nat) fun (i : Nat) => [D.int IntKind.i64 (x i)])), ((1 : Nat), V.d (D.fn (115 : Nat))), ((7 : Nat), V.d (D.int IntKind.i64 (↑n : Int))), ((8 : Nat), V.d (D.int IntKind.i64 (↑k : Int))), ((9 : Nat), V.d (D.bool (ltZ (↑k : Int) (↑n : Int))))] { n := (0 : Nat), b := [] } (QF (Env.tab E) (FnI.res I123) (vi (idxN n fun (i : Nat) => !okN (x i))))) (by as_aux_lemma => kernel_rfl) ?_
  simp only [Int.toNat_natCast, okN_z]
  obtain ⟨hk1, hk2⟩ := hk
  refine way_iff.2 ⟨fun hc => ?_, fun hc => ?_⟩
  · simp only [ltZ_eq, decide_eq_true_eq] at hc
    refine need_iff.2 ⟨by simp only [inI, ltZ_eq, leZ_eq, Bool.and_eq_true, decide_eq_true_eq]; omega, ?_⟩
    refine way_iff.2 ⟨fun hp => ?_, fun hp => ?_⟩
    · rw [idxN_hit (by omega) hk2 hp]
    · refine need_iff.2 ⟨by simp only [inRb, loK, hiK, leZ_eq, Bool.and_eq_true, decide_eq_true_eq]; omega, ?_⟩
      refine ⟨k + 1, ⟨by omega, fun i hi => ?_⟩, by omega, Nat.le_refl _, ⟨?_, BSub.nil _, rfl, rfl, Nat.zero_le _⟩⟩
      · rcases Nat.lt_or_ge i k with h | h
        · exact hk2 i h
        · obtain rfl : i = k := by omega
          exact hp
      · (repeat (first | exact SLe.nil _ | refine SLe.cons rfl (VLe.refl _) ?_))
  · simp only [ltZ_eq, decide_eq_false_iff_not] at hc
    refine TS.run [] ok123.ord eqs_ok cs0_ok (by repeat (first | exact QF.noPanic | exact QCF.noPanic | refine TSR.noPanic ?_ | refine NoPanic.thenP ?_ | refine NoPanic.inB ?_)) (by first | exact .inl (by as_aux_lemma => kernel_rfl) | exact .inr (by as_aux_lemma => kernel_rfl)) ?_
    refine @vc_of _ (V.d (D.int IntKind.i64 (-1 : Int)) = vi (idxN n fun (i : Nat) => !okN (x i))) (by as_aux_lemma => kernel_rfl) ?_
    rw [idxN_miss (fun i hi => hk2 i (by omega))]
/-- A cell's number. -/
def iD (l : List D) : Int := match l with | .int _ x :: _ => x | _ => 0
noncomputable def ptI : List (Nat × (List V → Option (List Ob × V))) := [
  (123, fun xs => match xs with
    | [.d (.rows n e f), .d (.fn g)] => some ([.p (e = 1 ∧ g = 115 ∧ ∀ i, f i = [.int .i64 (iD (f i))])], vi (idxN n fun i => !okN (iD (f i))))
    | _ => none)]
theorem ptI_ok : PtOk E ptI := by
  refine PtOk.cons ok123.en (fun args l r h hl => ?_) PtOk.nil
  split at h
  · rename_i n e f g
    cases h
    obtain ⟨rfl, rfl, h⟩ := (obsL_cons hl).1
    have := idx_r n fun i => iD (f i)
    rwa [rw_, show (fun i => [D.int .i64 (iD (f i))]) = f from (funext h).symm] at this
  · cases h
noncomputable def csI : Cs := csN E.tab eqs fns none (csP ptI) 10
theorem csI_ok : CsOk E csI := csN_ok fns_ok eqs_ok (csP_ok ptI_ok) 10
theorem fr_r (n : Nat) (x : Nat → Int) : Fn E 85 [rw_ n x] (vb (rightF n x)) := by
  refine Fn.of_vc ok85 eqs_ok csI_ok rfl rfl rfl (by first | exact .inl (by as_aux_lemma => kernel_rfl) | exact .inr (by as_aux_lemma => kernel_rfl)) fun hr => ?_
  refine @vc_of _ (((1 : Nat) = (1 : Nat) ∧ (115 : Nat) = (115 : FuncId) ∧ ∀ (i : Nat), [D.int IntKind.i64 (x i)] = [D.int IntKind.i64 (iD ((fun (i : Nat) => [D.int IntKind.i64 (x i)]) i))]) ∧ V.d (D.bool !leZ (0 : Int) (idxN n fun (i : Nat) => !okN (iD [D.int IntKind.i64 (x i)]))) = vb (rightF n x)) (by as_aux_lemma => kernel_rfl) ?_
  refine ⟨⟨rfl, rfl, fun _ => rfl⟩, ?_⟩
  rw [idxN_all]
  simp only [Bool.not_not]
  rfl
noncomputable def ptR : List (Nat × (List V → Option (List Ob × V))) := [
  (85, fun xs => match xs with
    | [.d (.rows n e f)] => some ([.p (e = 1 ∧ ∀ i, f i = [.int .i64 (iD (f i))])], vb (rightF n fun i => iD (f i)))
    | _ => none)]
theorem ptR_ok : PtOk E ptR := by
  refine PtOk.cons ok85.en (fun args l r h hl => ?_) PtOk.nil
  split at h
  · rename_i n e f
    cases h
    obtain ⟨rfl, h⟩ := (obsL_cons hl).1
    have := fr_r n fun i => iD (f i)
    rwa [rw_, show (fun i => [D.int .i64 (iD (f i))]) = f from (funext h).symm] at this
  · cases h
noncomputable def csR : Cs := csN E.tab eqs fns none (csP ptR) 10
theorem csR_ok : CsOk E csR := csN_ok fns_ok eqs_ok (csP_ok ptR_ok) 10
def sA (n : Nat) (x : Nat → Int) (k : Nat) : Slots := [(4, vi (sumF k x)), (15, rw_ n x), (16, vi n), (17, vi k)]
theorem fadd_r (n : Nat) (x : Nat → Int) : Fn E 79 [rw_ n x] (.tup [vi (addV n x), vi (addE n x)]) := by
  refine Fn.of_TS ok79 rfl rfl rfl fun hr => ?_
  have hn : n ≤ 9223372036854775807 := hr.1.1
  refine TS.seq rfl ?_
  refine TS.run [] ok79.ord eqs_ok csR_ok (by repeat (first | exact QF.noPanic | exact QCF.noPanic | refine TSR.noPanic ?_ | refine NoPanic.thenP ?_ | refine NoPanic.inB ?_)) (by first | exact .inl (by as_aux_lemma => kernel_rfl) | exact .inr (by as_aux_lemma => kernel_rfl)) ?_
  refine @vc_of _ (TS E (FnI.nt I79) (0 : Nat) (sub (FnI.code I79) [true]) [((0 : Nat), V.d (D.rows n (1 : Nat) fun (i : Nat) => [D.int IntKind.i64 (x i)]))] { n := (0 : Nat), b := [] } (QF (Env.tab E) (FnI.res I79) (V.tup [vi (addV n x), vi (addE n x)]))) (by as_aux_lemma => kernel_rfl) ?_
  refine TS.seq rfl ?_
  refine TS.run [] ok79.ord eqs_ok csR_ok (by repeat (first | exact QF.noPanic | exact QCF.noPanic | refine TSR.noPanic ?_ | refine NoPanic.thenP ?_ | refine NoPanic.inB ?_)) (by first | exact .inl (by as_aux_lemma => kernel_rfl) | exact .inr (by as_aux_lemma => kernel_rfl)) ?_
  refine @vc_of _ (((1 : Nat) = (1 : Nat) ∧ ∀ (i : Nat), [D.int IntKind.i64 (x i)] = [D.int IntKind.i64 (iD ((fun (i : Nat) => [D.int IntKind.i64 (x i)]) i))]) ∧ bif bif !rightF n fun (i : Nat) => iD [D.int IntKind.i64 (x i)] then true else ltZ (1024 : Int) (↑n : Int) then V.tup [V.d (D.int IntKind.i64 (0 : Int)), V.d (D.int IntKind.i64 (1 : Int))] = V.tup [vi (addV n x), vi (addE n x)] else TS E (FnI.nt I79) (0 : Nat) (sub (FnI.code I79) [true, true]) [((14 : Nat), V.d (D.bool false)), ((0 : Nat), V.d (D.rows n (1 : Nat) fun (i : Nat) => [D.int IntKind.i64 (x i)])), ((14 : Nat), V.d (D.bool (bif !rightF n fun (i : Nat) => iD [D.int IntKind.i64 (x i)] then true else ltZ (1024 : Int) (↑n : Int))))] { n := (0 : Nat), b := [] } (QF (Env.tab E) (FnI.res I79) (V.tup [vi (addV n x), vi (addE n x)]))) (by as_aux_lemma => kernel_rfl) ?_
  refine ⟨⟨rfl, fun _ => rfl⟩, ?_⟩
  have e1 : (rightF n fun i => iD [D.int .i64 (x i)]) = rightF n x := rfl
  have e2 : (bif !rightF n x then true else ltZ 1024 n) = !(rightF n x && Nat.ble n 1024) := by
    cases rightF n x
    · rfl
    · simp only [Bool.not_true, cond_false, Bool.true_and, ltZ_eq]
      cases hb : Nat.ble n 1024
      · have : ¬ n ≤ 1024 := fun h => by rw [Nat.ble_eq_true_of_le h] at hb; cases hb
        simp only [Bool.not_false, decide_eq_true_eq]; omega
      · have := Nat.le_of_ble_eq_true hb
        simp only [Bool.not_true, decide_eq_false_iff_not]; omega
  simp only [e1, e2]
  refine way_iff.2 ⟨fun hc => ?_, fun hc => ?_⟩
  · have hc : (rightF n x && Nat.ble n 1024) = false := by rwa [Bool.not_eq_true'] at hc
    rw [addV, addE, hc]; rfl
  have hc : (rightF n x && Nat.ble n 1024) = true := by rwa [Bool.not_eq_false'] at hc
  have hR : rightF n x = true := (and_split hc).1
  have hN : n ≤ 1024 := Nat.le_of_ble_eq_true (and_split hc).2
  refine TS.seq rfl ?_
  refine TS.run [] ok79.ord eqs_ok csR_ok (by repeat (first | exact QF.noPanic | exact QCF.noPanic | refine TSR.noPanic ?_ | refine NoPanic.thenP ?_ | refine NoPanic.inB ?_)) (by first | exact .inl (by as_aux_lemma => kernel_rfl) | exact .inr (by as_aux_lemma => kernel_rfl)) ?_
  refine @vc_of _ (TS E (FnI.nt I79) (0 : Nat) (sub (FnI.code I79) [true, true, true]) [((0 : Nat), V.d (D.rows n (1 : Nat) fun (i : Nat) => [D.int IntKind.i64 (x i)])), ((4 : Nat), V.d (D.int IntKind.i64 (0 : Int)))] { n := (0 : Nat), b := [] } (QF (Env.tab E) (FnI.res I79) (V.tup [vi (addV n x), vi (addE n x)]))) (by as_aux_lemma => kernel_rfl) ?_
  refine TS.seq rfl ?_
  refine TS.seq rfl ?_
  refine TS.run [] ok79.ord eqs_ok csR_ok (by repeat (first | exact QF.noPanic | exact QCF.noPanic | refine TSR.noPanic ?_ | refine NoPanic.thenP ?_ | refine NoPanic.inB ?_)) (by first | exact .inl (by as_aux_lemma => kernel_rfl) | exact .inr (by as_aux_lemma => kernel_rfl)) ?_
  refine @vc_of _ (TS E (FnI.nt I79) (0 : Nat) (sub (FnI.code I79) [true, true, true, false, true]) [((4 : Nat), V.d (D.int IntKind.i64 (0 : Int))), ((15 : Nat), V.d (D.rows n (1 : Nat) fun (i : Nat) => [D.int IntKind.i64 (x i)])), ((16 : Nat), V.d (D.int IntKind.i64 (↑n : Int))), ((17 : Nat), V.d (D.int IntKind.i64 (0 : Int)))] { n := (0 : Nat), b := [] } (thenP (fun (s' : Slots) (h' : Hp) => TS E (FnI.nt I79) (0 : Nat) (sub (FnI.code I79) ([true, true, true] ++ [true])) s' h' (QF (Env.tab E) (FnI.res I79) (V.tup [vi (addV n x), vi (addE n x)]))) (QF (Env.tab E) (FnI.res I79) (V.tup [vi (addV n x), vi (addE n x)])))) (by as_aux_lemma => kernel_rfl) ?_
  refine TS.block (i := 0) rfl ?_
  refine TS.loop (sA n x) (fun _ => ⟨0, []⟩) (fun k => k ≤ n) (fun k => n - k) 0 rfl ⟨?_, BSub.nil _, rfl, rfl, Nat.zero_le _⟩ (Nat.zero_le _) (Nat.zero_le _) (fun k hk => ?_)
  · (repeat (first | exact SLe.nil _ | refine SLe.cons rfl (VLe.refl _) ?_))
  have hb := sumF_b hR hk
  refine TS.run [] ok79.ord eqs_ok csR_ok (by repeat (first | exact QF.noPanic | exact QCF.noPanic | refine TSR.noPanic ?_ | refine NoPanic.thenP ?_ | refine NoPanic.inB ?_)) (by first | exact .inl (by as_aux_lemma => kernel_rfl) | exact .inr (by as_aux_lemma => kernel_rfl)) ?_
  refine @vc_of _ (bif ltZ (↑k : Int) (↑n : Int) then bif inI (↑k : Int) n then bif inRb IntKind.i64 (sumF k x + x (Int.toNat (↑k : Int))) then bif inRb IntKind.i64 ((↑k : Int) + (1 : Int)) then Again (0 : Nat) (sA n x) (fun (x : Nat) => { n := (0 : Nat), b := [] }) (fun (k : Nat) => k ≤ n) (fun (k : Nat) => n - k) k [((4 : Nat), V.d (D.int IntKind.i64 (sumF k x + x (Int.toNat (↑k : Int))))), ((15 : Nat), V.d (D.rows n (1 : Nat) fun (i : Nat) => [D.int IntKind.i64 (x i)])), ((16 : Nat), V.d (D.int IntKind.i64 (↑n : Int))), ((17 : Nat), V.d (D.int IntKind.i64 ((↑k : Int) + (1 : Int))))] { n := (0 : Nat), b := [] } else False else False else False else TS E (FnI.nt I79) (0 : Nat) (sub (FnI.code I79) [true, true, true, true]) [((18 : Nat), V.d (D.bool false)), ((4 : Nat), V.d (D.int IntKind.i64 (sumF k x))), ((15 : Nat), V.d (D.rows n (1 : Nat) fun (i : Nat) => [D.int IntKind.i64 (x i)])), ((16 : Nat), V.d (D.int IntKind.i64 (↑n : Int))), ((17 : Nat), V.d (D.int IntKind.i64 (↑k : Int))), ((18 : Nat), V.d (D.bool (ltZ (↑k : Int) (↑n : Int))))] { n := (0 : Nat), b := [] } (QF (Env.tab E) (FnI.res I79) (V.tup [vi (addV n x), vi (addE n x)]))) (by as_aux_lemma => kernel_rfl) ?_
  simp only [Int.toNat_natCast]
  refine way_iff.2 ⟨fun hl => ?_, fun hl => ?_⟩
  · simp only [ltZ_eq, decide_eq_true_eq] at hl
    have hb' := sumF_b (k := k + 1) hR (by omega)
    simp only [sumF] at hb'
    refine need_iff.2 ⟨by simp only [inI, ltZ_eq, leZ_eq, Bool.and_eq_true, decide_eq_true_eq]; omega, ?_⟩
    repeat' (refine need_iff.2 ⟨by simp only [inRb, loK, hiK, leZ_eq, Bool.and_eq_true, decide_eq_true_eq]; omega, ?_⟩)
    refine ⟨k + 1, (by omega : k + 1 ≤ n), by omega, Nat.le_refl _, ⟨?_, BSub.nil _, rfl, rfl, Nat.zero_le _⟩⟩
    (repeat (first | exact SLe.nil _ | refine SLe.cons rfl (VLe.refl _) ?_))
  · simp only [ltZ_eq, decide_eq_false_iff_not] at hl
    obtain rfl : k = n := by omega
    refine TS.run [] ok79.ord eqs_ok csR_ok (by repeat (first | exact QF.noPanic | exact QCF.noPanic | refine TSR.noPanic ?_ | refine NoPanic.thenP ?_ | refine NoPanic.inB ?_)) (by first | exact .inl (by as_aux_lemma => kernel_rfl) | exact .inr (by as_aux_lemma => kernel_rfl)) ?_
    refine @vc_of _ ((bif !bif leZ (-2147483648 : Int) (sumF k x) then leZ (sumF k x) (2147483647 : Int) else false then True else True) ∧ V.tup [V.d (D.int IntKind.i64 (bif !bif leZ (-2147483648 : Int) (sumF k x) then leZ (sumF k x) (2147483647 : Int) else false then (0 : Int) else sumF k x)), V.d (D.int IntKind.i64 (bif !bif leZ (-2147483648 : Int) (sumF k x) then leZ (sumF k x) (2147483647 : Int) else false then (6 : Int) else (0 : Int)))] = V.tup [vi (addV k x), vi (addE k x)]) (by as_aux_lemma => kernel_rfl) ?_
    simp only [okN_z]
    rw [addV, addE, hc]
    cases okN (sumF k x) <;> exact ⟨trivial, rfl⟩
theorem rr_r (n : Nat) (x : Nat → Int) : Fn E 46 [rw_ n x] (vb (rightF n x)) := by
  refine Fn.of_TS ok46 rfl rfl rfl fun hr => ?_
  have hn : n ≤ 9223372036854775807 := hr.1.1
  refine TS.seq rfl ?_
  refine TS.run [] ok46.ord eqs_ok csR_ok (by repeat (first | exact QF.noPanic | exact QCF.noPanic | refine TSR.noPanic ?_ | refine NoPanic.thenP ?_ | refine NoPanic.inB ?_)) (by first | exact .inl (by as_aux_lemma => kernel_rfl) | exact .inr (by as_aux_lemma => kernel_rfl)) ?_
  refine @vc_of _ (TS E (FnI.nt I46) (0 : Nat) (sub (FnI.code I46) [true]) [((0 : Nat), V.d (D.rows n (1 : Nat) fun (i : Nat) => [D.int IntKind.i64 (x i)]))] { n := (0 : Nat), b := [] } (QF (Env.tab E) (FnI.res I46) (vb (rightF n x)))) (by as_aux_lemma => kernel_rfl) ?_
  refine TS.seq rfl ?_
  refine TS.seq rfl ?_
  refine TS.run [] ok46.ord eqs_ok csR_ok (by repeat (first | exact QF.noPanic | exact QCF.noPanic | refine TSR.noPanic ?_ | refine NoPanic.thenP ?_ | refine NoPanic.inB ?_)) (by first | exact .inl (by as_aux_lemma => kernel_rfl) | exact .inr (by as_aux_lemma => kernel_rfl)) ?_
  refine @vc_of _ (TS E (FnI.nt I46) (0 : Nat) (sub (FnI.code I46) [true, false, true]) [((0 : Nat), V.d (D.rows n (1 : Nat) fun (i : Nat) => [D.int IntKind.i64 (x i)])), ((3 : Nat), V.d (D.int IntKind.i64 (0 : Int)))] { n := (0 : Nat), b := [] } (thenP (fun (s' : Slots) (h' : Hp) => TS E (FnI.nt I46) (0 : Nat) (sub (FnI.code I46) ([true] ++ [true])) s' h' (QF (Env.tab E) (FnI.res I46) (vb (rightF n x)))) (QF (Env.tab E) (FnI.res I46) (vb (rightF n x))))) (by as_aux_lemma => kernel_rfl) ?_
  refine TS.block (i := 0) rfl ?_
  refine TS.loop (fun k : Nat => [(0, rw_ n x), (3, vi k)]) (fun _ => ⟨0, []⟩) (fun k => k ≤ n ∧ ∀ i, i < k → okN (x i) = true) (fun k => n - k) 0 rfl ⟨?_, BSub.nil _, rfl, rfl, Nat.zero_le _⟩ (Nat.zero_le _) ⟨Nat.zero_le _, fun i hi => by omega⟩ (fun k hk => ?_)
  · (repeat (first | exact SLe.nil _ | refine SLe.cons rfl (VLe.refl _) ?_))
  refine TS.run [] ok46.ord eqs_ok csR_ok (by repeat (first | exact QF.noPanic | exact QCF.noPanic | refine TSR.noPanic ?_ | refine NoPanic.thenP ?_ | refine NoPanic.inB ?_)) (by first | exact .inl (by as_aux_lemma => kernel_rfl) | exact .inr (by as_aux_lemma => kernel_rfl)) ?_
  refine @vc_of _ (bif ltZ (↑k : Int) (↑n : Int) then bif inI (↑k : Int) n then bif !bif leZ (-2147483648 : Int) (x (Int.toNat (↑k : Int))) then leZ (x (Int.toNat (↑k : Int))) (2147483647 : Int) else false then V.d (D.bool false) = vb (rightF n x) else bif inRb IntKind.i64 ((↑k : Int) + (1 : Int)) then Again (0 : Nat) (fun (k : Nat) => [((0 : Nat), rw_ n x), ((3 : Nat), vi (↑k : Int))]) (fun (x : Nat) => { n := (0 : Nat), b := [] }) (fun (k : Nat) => k ≤ n ∧ ∀ (i : Nat), i < k → okN (x i) = true) (fun (k : Nat) => n - k) k [((0 : Nat), V.d (D.rows n (1 : Nat) fun (i : Nat) => [D.int IntKind.i64 (x i)])), ((3 : Nat), V.d (D.int IntKind.i64 ((↑k : Int) + (1 : Int))))] { n := (0 : Nat), b := [] } else False else False else TS E (FnI.nt I46) (0 : Nat) (sub (FnI.code I46) [true, true]) [((8 : Nat), V.d (D.bool false)), ((0 : Nat), V.d (D.rows n (1 : Nat) fun (i : Nat) => [D.int IntKind.i64 (x i)])), ((3 : Nat), V.d (D.int IntKind.i64 (↑k : Int))), ((8 : Nat), V.d (D.bool (ltZ (↑k : Int) (↑n : Int))))] { n := (0 : Nat), b := [] } (QF (Env.tab E) (FnI.res I46) (vb (rightF n x)))) (by as_aux_lemma => kernel_rfl) ?_
  obtain ⟨hk1, hk2⟩ := hk
  simp only [Int.toNat_natCast, okN_z]
  refine way_iff.2 ⟨fun hl => ?_, fun hl => ?_⟩
  · simp only [ltZ_eq, decide_eq_true_eq] at hl
    refine need_iff.2 ⟨by simp only [inI, ltZ_eq, leZ_eq, Bool.and_eq_true, decide_eq_true_eq]; omega, ?_⟩
    refine way_iff.2 ⟨fun hp => ?_, fun hp => ?_⟩
    · rw [rightF, allN_false (k := k) (by omega) (by simpa using hp)]
    · refine need_iff.2 ⟨by simp only [inRb, loK, hiK, leZ_eq, Bool.and_eq_true, decide_eq_true_eq]; omega, ?_⟩
      refine ⟨k + 1, ⟨by omega, fun i hi => ?_⟩, by omega, Nat.le_refl _, ⟨?_, BSub.nil _, rfl, rfl, Nat.zero_le _⟩⟩
      · rcases Nat.lt_or_ge i k with h | h
        · exact hk2 i h
        · obtain rfl : i = k := by omega
          simpa using hp
      · (repeat (first | exact SLe.nil _ | refine SLe.cons rfl (VLe.refl _) ?_))
  · simp only [ltZ_eq, decide_eq_false_iff_not] at hl
    refine TS.run [] ok46.ord eqs_ok csR_ok (by repeat (first | exact QF.noPanic | exact QCF.noPanic | refine TSR.noPanic ?_ | refine NoPanic.thenP ?_ | refine NoPanic.inB ?_)) (by first | exact .inl (by as_aux_lemma => kernel_rfl) | exact .inr (by as_aux_lemma => kernel_rfl)) ?_
    refine @vc_of _ (V.d (D.bool true) = vb (rightF n x)) (by as_aux_lemma => kernel_rfl) ?_
    rw [rightF, allN_iff.2 (fun i hi => hk2 i (by omega))]
noncomputable def ptS : List (Nat × (List V → Option (List Ob × V))) := [
  (46, fun xs => match xs with
    | [.d (.rows n e f)] => some ([.p (e = 1 ∧ ∀ i, f i = [.int .i64 (iD (f i))])], vb (rightF n fun i => iD (f i)))
    | _ => none)]
theorem ptS_ok : PtOk E ptS := by
  refine PtOk.cons ok46.en (fun args l r h hl => ?_) PtOk.nil
  split at h
  · rename_i n e f
    cases h
    obtain ⟨rfl, h⟩ := (obsL_cons hl).1
    have := rr_r n fun i => iD (f i)
    rwa [rw_, show (fun i => [D.int .i64 (iD (f i))]) = f from (funext h).symm] at this
  · cases h
noncomputable def csS : Cs := csN E.tab eqs fns none (csP ptS) 10
theorem csS_ok : CsOk E csS := csN_ok fns_ok eqs_ok (csP_ok ptS_ok) 10
theorem radd_r (n : Nat) (x : Nat → Int) : Fn E 83 [rw_ n x] (.tup [vi (addV n x), vi (addE n x)]) := by
  refine Fn.of_TS ok83 rfl rfl rfl fun hr => ?_
  have hn : n ≤ 9223372036854775807 := hr.1.1
  refine TS.seq rfl ?_
  refine TS.run [] ok83.ord eqs_ok csS_ok (by repeat (first | exact QF.noPanic | exact QCF.noPanic | refine TSR.noPanic ?_ | refine NoPanic.thenP ?_ | refine NoPanic.inB ?_)) (by first | exact .inl (by as_aux_lemma => kernel_rfl) | exact .inr (by as_aux_lemma => kernel_rfl)) ?_
  refine @vc_of _ (TS E (FnI.nt I83) (0 : Nat) (sub (FnI.code I83) [true]) [((0 : Nat), V.d (D.rows n (1 : Nat) fun (i : Nat) => [D.int IntKind.i64 (x i)]))] { n := (0 : Nat), b := [] } (QF (Env.tab E) (FnI.res I83) (V.tup [vi (addV n x), vi (addE n x)]))) (by as_aux_lemma => kernel_rfl) ?_
  refine TS.seq rfl ?_
  refine TS.run [] ok83.ord eqs_ok csS_ok (by repeat (first | exact QF.noPanic | exact QCF.noPanic | refine TSR.noPanic ?_ | refine NoPanic.thenP ?_ | refine NoPanic.inB ?_)) (by first | exact .inl (by as_aux_lemma => kernel_rfl) | exact .inr (by as_aux_lemma => kernel_rfl)) ?_
  refine @vc_of _ (((1 : Nat) = (1 : Nat) ∧ ∀ (i : Nat), [D.int IntKind.i64 (x i)] = [D.int IntKind.i64 (iD ((fun (i : Nat) => [D.int IntKind.i64 (x i)]) i))]) ∧ TS E (FnI.nt I83) (0 : Nat) (sub (FnI.code I83) [true, true]) [((0 : Nat), V.d (D.rows n (1 : Nat) fun (i : Nat) => [D.int IntKind.i64 (x i)])), ((4 : Nat), V.d (D.bool (rightF n fun (i : Nat) => iD [D.int IntKind.i64 (x i)])))] { n := (0 : Nat), b := [] } (QF (Env.tab E) (FnI.res I83) (V.tup [vi (addV n x), vi (addE n x)]))) (by as_aux_lemma => kernel_rfl) ?_
  refine ⟨⟨rfl, fun _ => rfl⟩, ?_⟩
  refine TS.seq rfl ?_
  refine TS.run [] ok83.ord eqs_ok csS_ok (by repeat (first | exact QF.noPanic | exact QCF.noPanic | refine TSR.noPanic ?_ | refine NoPanic.thenP ?_ | refine NoPanic.inB ?_)) (by first | exact .inl (by as_aux_lemma => kernel_rfl) | exact .inr (by as_aux_lemma => kernel_rfl)) ?_
  refine @vc_of _ (bif bif !rightF n fun (i : Nat) => iD [D.int IntKind.i64 (x i)] then true else ltZ (1024 : Int) (↑n : Int) then V.tup [V.d (D.int IntKind.i64 (0 : Int)), V.d (D.int IntKind.i64 (1 : Int))] = V.tup [vi (addV n x), vi (addE n x)] else TS E (FnI.nt I83) (0 : Nat) (sub (FnI.code I83) [true, true, true]) [((15 : Nat), V.d (D.bool false)), ((0 : Nat), V.d (D.rows n (1 : Nat) fun (i : Nat) => [D.int IntKind.i64 (x i)])), ((15 : Nat), V.d (D.bool (bif !rightF n fun (i : Nat) => iD [D.int IntKind.i64 (x i)] then true else ltZ (1024 : Int) (↑n : Int))))] { n := (0 : Nat), b := [] } (QF (Env.tab E) (FnI.res I83) (V.tup [vi (addV n x), vi (addE n x)]))) (by as_aux_lemma => kernel_rfl) ?_
  have e1 : (rightF n fun i => iD [D.int .i64 (x i)]) = rightF n x := rfl
  have e2 : (bif !rightF n x then true else ltZ 1024 n) = !(rightF n x && Nat.ble n 1024) := by
    cases rightF n x
    · rfl
    · simp only [Bool.not_true, cond_false, Bool.true_and, ltZ_eq]
      cases hb : Nat.ble n 1024
      · have : ¬ n ≤ 1024 := fun h => by rw [Nat.ble_eq_true_of_le h] at hb; cases hb
        simp only [Bool.not_false, decide_eq_true_eq]; omega
      · have := Nat.le_of_ble_eq_true hb
        simp only [Bool.not_true, decide_eq_false_iff_not]; omega
  simp only [e1, e2]
  refine way_iff.2 ⟨fun hc => ?_, fun hc => ?_⟩
  · have hc : (rightF n x && Nat.ble n 1024) = false := by rwa [Bool.not_eq_true'] at hc
    rw [addV, addE, hc]; rfl
  have hc : (rightF n x && Nat.ble n 1024) = true := by rwa [Bool.not_eq_false'] at hc
  have hR : rightF n x = true := (and_split hc).1
  have hN : n ≤ 1024 := Nat.le_of_ble_eq_true (and_split hc).2
  refine TS.seq rfl ?_
  refine TS.run [] ok83.ord eqs_ok csS_ok (by repeat (first | exact QF.noPanic | exact QCF.noPanic | refine TSR.noPanic ?_ | refine NoPanic.thenP ?_ | refine NoPanic.inB ?_)) (by first | exact .inl (by as_aux_lemma => kernel_rfl) | exact .inr (by as_aux_lemma => kernel_rfl)) ?_
  refine @vc_of _ (TS E (FnI.nt I83) (0 : Nat) (sub (FnI.code I83) [true, true, true, true]) [((0 : Nat), V.d (D.rows n (1 : Nat) fun (i : Nat) => [D.int IntKind.i64 (x i)])), ((5 : Nat), V.d (D.int IntKind.i64 (0 : Int)))] { n := (0 : Nat), b := [] } (QF (Env.tab E) (FnI.res I83) (V.tup [vi (addV n x), vi (addE n x)]))) (by as_aux_lemma => kernel_rfl) ?_
  refine TS.seq rfl ?_
  refine TS.seq rfl ?_
  refine TS.run [] ok83.ord eqs_ok csS_ok (by repeat (first | exact QF.noPanic | exact QCF.noPanic | refine TSR.noPanic ?_ | refine NoPanic.thenP ?_ | refine NoPanic.inB ?_)) (by first | exact .inl (by as_aux_lemma => kernel_rfl) | exact .inr (by as_aux_lemma => kernel_rfl)) ?_
  refine @vc_of _ (TS E (FnI.nt I83) (0 : Nat) (sub (FnI.code I83) [true, true, true, true, false, true]) [((0 : Nat), V.d (D.rows n (1 : Nat) fun (i : Nat) => [D.int IntKind.i64 (x i)])), ((5 : Nat), V.d (D.int IntKind.i64 (0 : Int))), ((6 : Nat), V.d (D.int IntKind.i64 (0 : Int)))] { n := (0 : Nat), b := [] } (thenP (fun (s' : Slots) (h' : Hp) => TS E (FnI.nt I83) (0 : Nat) (sub (FnI.code I83) ([true, true, true, true] ++ [true])) s' h' (QF (Env.tab E) (FnI.res I83) (V.tup [vi (addV n x), vi (addE n x)]))) (QF (Env.tab E) (FnI.res I83) (V.tup [vi (addV n x), vi (addE n x)])))) (by as_aux_lemma => kernel_rfl) ?_
  refine TS.block (i := 0) rfl ?_
  refine TS.loop (fun k : Nat => [(0, rw_ n x), (5, vi (sumF k x)), (6, vi k)]) (fun _ => ⟨0, []⟩) (fun k => k ≤ n) (fun k => n - k) 0 rfl ⟨?_, BSub.nil _, rfl, rfl, Nat.zero_le _⟩ (Nat.zero_le _) (Nat.zero_le _) (fun k hk => ?_)
  · (repeat (first | exact SLe.nil _ | refine SLe.cons rfl (VLe.refl _) ?_))
  have hb := sumF_b hR hk
  refine TS.run [] ok83.ord eqs_ok csS_ok (by repeat (first | exact QF.noPanic | exact QCF.noPanic | refine TSR.noPanic ?_ | refine NoPanic.thenP ?_ | refine NoPanic.inB ?_)) (by first | exact .inl (by as_aux_lemma => kernel_rfl) | exact .inr (by as_aux_lemma => kernel_rfl)) ?_
  refine @vc_of _ (bif ltZ (↑k : Int) (↑n : Int) then bif inI (↑k : Int) n then bif inRb IntKind.i64 (sumF k x + x (Int.toNat (↑k : Int))) then bif inRb IntKind.i64 ((↑k : Int) + (1 : Int)) then Again (0 : Nat) (fun (k : Nat) => [((0 : Nat), rw_ n x), ((5 : Nat), vi (sumF k x)), ((6 : Nat), vi (↑k : Int))]) (fun (x : Nat) => { n := (0 : Nat), b := [] }) (fun (k : Nat) => k ≤ n) (fun (k : Nat) => n - k) k [((0 : Nat), V.d (D.rows n (1 : Nat) fun (i : Nat) => [D.int IntKind.i64 (x i)])), ((5 : Nat), V.d (D.int IntKind.i64 (sumF k x + x (Int.toNat (↑k : Int))))), ((6 : Nat), V.d (D.int IntKind.i64 ((↑k : Int) + (1 : Int))))] { n := (0 : Nat), b := [] } else False else False else False else TS E (FnI.nt I83) (0 : Nat) (sub (FnI.code I83) [true, true, true, true, true]) [((19 : Nat), V.d (D.bool false)), ((0 : Nat), V.d (D.rows n (1 : Nat) fun (i : Nat) => [D.int IntKind.i64 (x i)])), ((5 : Nat), V.d (D.int IntKind.i64 (sumF k x))), ((6 : Nat), V.d (D.int IntKind.i64 (↑k : Int))), ((19 : Nat), V.d (D.bool (ltZ (↑k : Int) (↑n : Int))))] { n := (0 : Nat), b := [] } (QF (Env.tab E) (FnI.res I83) (V.tup [vi (addV n x), vi (addE n x)]))) (by as_aux_lemma => kernel_rfl) ?_
  simp only [Int.toNat_natCast]
  refine way_iff.2 ⟨fun hl => ?_, fun hl => ?_⟩
  · simp only [ltZ_eq, decide_eq_true_eq] at hl
    have hb' := sumF_b (k := k + 1) hR (by omega)
    simp only [sumF] at hb'
    refine need_iff.2 ⟨by simp only [inI, ltZ_eq, leZ_eq, Bool.and_eq_true, decide_eq_true_eq]; omega, ?_⟩
    repeat' (refine need_iff.2 ⟨by simp only [inRb, loK, hiK, leZ_eq, Bool.and_eq_true, decide_eq_true_eq]; omega, ?_⟩)
    refine ⟨k + 1, (by omega : k + 1 ≤ n), by omega, Nat.le_refl _, ⟨?_, BSub.nil _, rfl, rfl, Nat.zero_le _⟩⟩
    (repeat (first | exact SLe.nil _ | refine SLe.cons rfl (VLe.refl _) ?_))
  · simp only [ltZ_eq, decide_eq_false_iff_not] at hl
    obtain rfl : k = n := by omega
    refine TS.run [] ok83.ord eqs_ok csS_ok (by repeat (first | exact QF.noPanic | exact QCF.noPanic | refine TSR.noPanic ?_ | refine NoPanic.thenP ?_ | refine NoPanic.inB ?_)) (by first | exact .inl (by as_aux_lemma => kernel_rfl) | exact .inr (by as_aux_lemma => kernel_rfl)) ?_
    refine @vc_of _ ((bif !bif leZ (-2147483648 : Int) (sumF k x) then leZ (sumF k x) (2147483647 : Int) else false then True else True) ∧ V.tup [V.d (D.int IntKind.i64 (bif !bif leZ (-2147483648 : Int) (sumF k x) then leZ (sumF k x) (2147483647 : Int) else false then (0 : Int) else sumF k x)), V.d (D.int IntKind.i64 (bif !bif leZ (-2147483648 : Int) (sumF k x) then leZ (sumF k x) (2147483647 : Int) else false then (6 : Int) else (0 : Int)))] = V.tup [vi (addV k x), vi (addE k x)]) (by as_aux_lemma => kernel_rfl) ?_
    simp only [okN_z]
    rw [addV, addE, hc]
    cases okN (sumF k x) <;> exact ⟨trivial, rfl⟩
end Go.Proofs.Ytmgckodihnmjoaa
