/-
  What joins any boxes, in the document's words. Conditions: none.
-/
import Derived.Test.YtmgckodihnmjoaaShH
set_option linter.unusedVariables false
set_option linter.unusedSimpArgs false
set_option maxRecDepth 20000
namespace Go.Proofs.Ytmgckodihnmjoaa
open Oc
set_option maxRecDepth 100000
noncomputable def edgP : List V → Option (List Ob × V) := fun xs => match xs with
  | [.d (.rows n e f), .d (.bool q)] => some ([.p (e = 3 ∧ ∀ i, i < n → f i = [.int .i64 (jD (f i) 0), .int .i64 (jD (f i) 1), .int .i64 (jD (f i) 2)])], .agg (e3 q (fun i j => jD (f i) j) n))
  | _ => none
theorem edgP_ok : ∀ args l r, edgP args = some (l, r) → obsL l → Fn E 28 args r := fun args l r e hl => by
  unfold edgP at e; split at e
  · rename_i n e' f q
    cases e
    obtain ⟨rfl, h⟩ := (obsL_cons hl).1
    refine Fn.leA rfl (.cons (VLe.ext (g := fun i => [.int .i64 (jD (f i) 0), .int .i64 (jD (f i) 1), .int .i64 (jD (f i) 2)]) h) (.cons (.refl _) .nil)) ?_
    exact edge_r q n fun i j => jD (f i) j
  · cases e
noncomputable def csY : Cs := csN E.tab eqs fnS none (csP ((28, edgP) :: ptK)) 10
theorem csY_ok : CsOk E csY := csN_ok fnS_ok eqs_ok (csP_ok (PtOk.cons ok28.en edgP_ok ptK_ok)) 10
def loB (b : Nat → Nat → Int) (i : Nat) : List D := [.int .i64 (b i 0), .int .i64 (b i 1), .int .i64 (b i 2)]
def hiB (b : Nat → Nat → Int) (i : Nat) : List D := [.int .i64 (b i 3), .int .i64 (b i 4), .int .i64 (b i 5)]
noncomputable def sJ1 (n : Nat) (b : Nat → Nat → Int) (k : Nat) : Slots := [(0, rb n b), (2, .ptr 0 0), (4, .sl 3 1 0 k), (5, .sl 3 2 0 k), (6, vi k)]
noncomputable def hJ1 (b : Nat → Nat → Int) (k : Nat) : Hp := ⟨3, [(0, some (.cells z6)), (1, some (.rows k 3 (loB b))), (2, some (.rows k 3 (hiB b)))]⟩
noncomputable def sJ (n : Nat) (b : Nat → Nat → Int) (k : Nat) : Slots := match k with
  | 0 => [(0, rb n b), (2, .ptr 0 0), (4, .d .nsl), (5, .d .nsl), (6, vi 0)]
  | k + 1 => sJ1 n b (k + 1)
noncomputable def hJ (b : Nat → Nat → Int) (k : Nat) : Hp := match k with
  | 0 => ⟨1, [(0, some (.cells z6))]⟩
  | k + 1 => hJ1 b (k + 1)
theorem BkLe.rows {n e : Nat} {f g : Nat → List D} (h : ∀ i, i < n → f i = g i) : BkLe (.rows n e f) (.rows n e g) := fun U m n' w mx k => by
  cases k with
  | rows hl c => exact .rows (fun i hi => by rw [← h i hi]; exact hl i hi) (by rw [← flatN_ext h]; exact c)
  | rows0 => exact .rows0
theorem jn_bad {n k : Nat} {b : Nat → Nat → Int} (hk : k < n) (h : bxI b k = false) : jnR n b = .tup [.agg z6, vi 1] := by
  have hG : jnG n b = true := by
    unfold jnG allBx
    rw [allN_false hk h]
    cases Nat.beq n 0 <;> rfl
  unfold jnR jnV jnE; rw [hG]; rfl
theorem edg_c {q : Bool} {v v' : Nat → Nat → Int} {j j' : Nat} (h : ∀ i, v i j = v' i j') : ∀ k, edg q v k j = edg q v' k j'
  | 0 => rfl
  | 1 => h 0
  | k + 2 => by
    show (bif q then max (edg q v (k + 1) j) (v (k + 1) j) else min (edg q v (k + 1) j) (v (k + 1) j)) = _
    rw [edg_c h (k + 1), h (k + 1)]; rfl
theorem edg_f (b : Nat → Nat → Int) (k j : Nat) : edg false b (k + 1) j = jmL b (k + 1) j := by
  induction k with
  | zero => show b 0 j = min (b 0 j) (b 0 j); omega
  | succ k ih => show min (edg false b (k + 1) j) (b (k + 1) j) = min (jmL b (k + 1) j) (b (k + 1) j); rw [ih]
theorem edg_t (b : Nat → Nat → Int) (k j : Nat) : edg true b (k + 1) j = jmH b (k + 1) j := by
  induction k with
  | zero => show b 0 j = max (b 0 j) (b 0 j); omega
  | succ k ih => show max (edg true b (k + 1) j) (b (k + 1) j) = max (jmH b (k + 1) j) (b (k + 1) j); rw [ih]
theorem rjoin_r (n : Nat) (b : Nat → Nat → Int) (h60 : n ≤ 60) : Fn E 51 [rb n b] (jnR n b) := by
  refine Fn.of_TS ok51 rfl rfl rfl fun hr => ?_
  have hn : n ≤ 9223372036854775807 := hr.1.1
  refine TS.seq rfl ?_
  refine TS.run [] ok51.ord eqs_ok csY_ok (by repeat (first | exact QF.noPanic | refine TSR.noPanic ?_ | refine NoPanic.thenP ?_ | refine NoPanic.inB ?_)) (by first | exact .inl (by as_aux_lemma => kernel_rfl) | exact .inr (by as_aux_lemma => kernel_rfl)) ?_
  refine @vc_of _ (TS E (FnI.nt I51) (0 : Nat) (sub (FnI.code I51) [true]) [((0 : Nat), V.d (D.rows n (6 : Nat) fun (i : Nat) => [D.int IntKind.i64 (b i (0 : Nat)), D.int IntKind.i64 (b i (1 : Nat)), D.int IntKind.i64 (b i (2 : Nat)), D.int IntKind.i64 (b i (3 : Nat)), D.int IntKind.i64 (b i (4 : Nat)), D.int IntKind.i64 (b i (5 : Nat))])), ((2 : Nat), V.ptr (0 : Nat) (0 : Nat))] { n := (1 : Nat), b := [((0 : Nat), some (Blk.cells [V.d (D.int IntKind.i64 (0 : Int)), V.d (D.int IntKind.i64 (0 : Int)), V.d (D.int IntKind.i64 (0 : Int)), V.d (D.int IntKind.i64 (0 : Int)), V.d (D.int IntKind.i64 (0 : Int)), V.d (D.int IntKind.i64 (0 : Int))]))] } (QF (Env.tab E) (FnI.res I51) (jnR n b))) (by as_aux_lemma => kernel_rfl) ?_
  refine TS.seq rfl ?_
  refine TS.run [] ok51.ord eqs_ok csY_ok (by repeat (first | exact QF.noPanic | refine TSR.noPanic ?_ | refine NoPanic.thenP ?_ | refine NoPanic.inB ?_)) (by first | exact .inl (by as_aux_lemma => kernel_rfl) | exact .inr (by as_aux_lemma => kernel_rfl)) ?_
  refine @vc_of _ (TS E (FnI.nt I51) (0 : Nat) (sub (FnI.code I51) [true, true]) [((0 : Nat), V.d (D.rows n (6 : Nat) fun (i : Nat) => [D.int IntKind.i64 (b i (0 : Nat)), D.int IntKind.i64 (b i (1 : Nat)), D.int IntKind.i64 (b i (2 : Nat)), D.int IntKind.i64 (b i (3 : Nat)), D.int IntKind.i64 (b i (4 : Nat)), D.int IntKind.i64 (b i (5 : Nat))])), ((2 : Nat), V.ptr (0 : Nat) (0 : Nat)), ((4 : Nat), V.d D.nsl), ((5 : Nat), V.d D.nsl)] { n := (1 : Nat), b := [((0 : Nat), some (Blk.cells [V.d (D.int IntKind.i64 (0 : Int)), V.d (D.int IntKind.i64 (0 : Int)), V.d (D.int IntKind.i64 (0 : Int)), V.d (D.int IntKind.i64 (0 : Int)), V.d (D.int IntKind.i64 (0 : Int)), V.d (D.int IntKind.i64 (0 : Int))]))] } (QF (Env.tab E) (FnI.res I51) (jnR n b))) (by as_aux_lemma => kernel_rfl) ?_
  refine TS.seq rfl ?_
  refine TS.seq rfl ?_
  refine TS.run [] ok51.ord eqs_ok csY_ok (by repeat (first | exact QF.noPanic | refine TSR.noPanic ?_ | refine NoPanic.thenP ?_ | refine NoPanic.inB ?_)) (by first | exact .inl (by as_aux_lemma => kernel_rfl) | exact .inr (by as_aux_lemma => kernel_rfl)) ?_
  refine @vc_of _ (TS E (FnI.nt I51) (0 : Nat) (sub (FnI.code I51) [true, true, false, true]) [((0 : Nat), V.d (D.rows n (6 : Nat) fun (i : Nat) => [D.int IntKind.i64 (b i (0 : Nat)), D.int IntKind.i64 (b i (1 : Nat)), D.int IntKind.i64 (b i (2 : Nat)), D.int IntKind.i64 (b i (3 : Nat)), D.int IntKind.i64 (b i (4 : Nat)), D.int IntKind.i64 (b i (5 : Nat))])), ((2 : Nat), V.ptr (0 : Nat) (0 : Nat)), ((4 : Nat), V.d D.nsl), ((5 : Nat), V.d D.nsl), ((6 : Nat), V.d (D.int IntKind.i64 (0 : Int)))] { n := (1 : Nat), b := [((0 : Nat), some (Blk.cells [V.d (D.int IntKind.i64 (0 : Int)), V.d (D.int IntKind.i64 (0 : Int)), V.d (D.int IntKind.i64 (0 : Int)), V.d (D.int IntKind.i64 (0 : Int)), V.d (D.int IntKind.i64 (0 : Int)), V.d (D.int IntKind.i64 (0 : Int))]))] } (thenP (fun (s' : Slots) (h' : Hp) => TS E (FnI.nt I51) (0 : Nat) (sub (FnI.code I51) ([true, true] ++ [true])) s' h' (QF (Env.tab E) (FnI.res I51) (jnR n b))) (QF (Env.tab E) (FnI.res I51) (jnR n b)))) (by as_aux_lemma => kernel_rfl) ?_
  refine TS.block (i := 0) rfl ?_
  refine TS.loop (sJ n b) (hJ b) (fun k => k ≤ n ∧ ∀ i, i < k → bxI b i = true) (fun k => n - k) 0 rfl ⟨?_, ?_, rfl, rfl, Nat.zero_le _⟩ (Nat.le_refl _) ⟨Nat.zero_le _, fun i hi => by omega⟩ (fun k hk => ?_)
  · (repeat (first | exact SLe.nil _ | refine SLe.cons rfl (VLe.refl _) ?_))
  · exact BSub.cons rfl (BkLe.refl _) (BSub.nil _)
  obtain ⟨hk1, hk2⟩ := hk
  cases k with
  | zero =>
    refine TS.run [] ok51.ord eqs_ok csY_ok (by repeat (first | exact QF.noPanic | refine TSR.noPanic ?_ | refine NoPanic.thenP ?_ | refine NoPanic.inB ?_)) (by first | exact .inl (by as_aux_lemma => kernel_rfl) | exact .inr (by as_aux_lemma => kernel_rfl)) ?_
    refine @vc_of _ (bif ltZ (0 : Int) (↑n : Int) then bif inI (0 : Int) n then bif !bxR (b (Int.toNat (0 : Int)) (0 : Nat)) (b (Int.toNat (0 : Int)) (1 : Nat)) (b (Int.toNat (0 : Int)) (2 : Nat)) (b (Int.toNat (0 : Int)) (3 : Nat)) (b (Int.toNat (0 : Int)) (4 : Nat)) (b (Int.toNat (0 : Int)) (5 : Nat)) then V.tup [V.agg [V.d (D.int IntKind.i64 (0 : Int)), V.d (D.int IntKind.i64 (0 : Int)), V.d (D.int IntKind.i64 (0 : Int)), V.d (D.int IntKind.i64 (0 : Int)), V.d (D.int IntKind.i64 (0 : Int)), V.d (D.int IntKind.i64 (0 : Int))], V.d (D.int IntKind.i64 (1 : Int))] = jnR n b else bif inI (0 : Int) n then bif inI (0 : Int) n then Again (0 : Nat) (sJ n b) (hJ b) (fun (k : Nat) => k ≤ n ∧ ∀ (i : Nat), i < k → bxI b i = true) (fun (k : Nat) => n - k) (0 : Nat) [((0 : Nat), V.d (D.rows n (6 : Nat) fun (i : Nat) => [D.int IntKind.i64 (b i (0 : Nat)), D.int IntKind.i64 (b i (1 : Nat)), D.int IntKind.i64 (b i (2 : Nat)), D.int IntKind.i64 (b i (3 : Nat)), D.int IntKind.i64 (b i (4 : Nat)), D.int IntKind.i64 (b i (5 : Nat))])), ((2 : Nat), V.ptr (0 : Nat) (0 : Nat)), ((4 : Nat), V.sl (3 : Nat) (1 : Nat) (0 : Nat) (1 : Nat)), ((5 : Nat), V.sl (3 : Nat) (2 : Nat) (0 : Nat) (1 : Nat)), ((6 : Nat), V.d (D.int IntKind.i64 ((0 : Int) + (1 : Int))))] { n := (3 : Nat), b := [((2 : Nat), some (Blk.rows (1 : Nat) (3 : Nat) fun (a : Nat) => [D.int IntKind.i64 (b (Int.toNat (0 : Int)) (3 : Nat)), D.int IntKind.i64 (b (Int.toNat (0 : Int)) (4 : Nat)), D.int IntKind.i64 (b (Int.toNat (0 : Int)) (5 : Nat))])), ((1 : Nat), some (Blk.rows (1 : Nat) (3 : Nat) fun (a : Nat) => [D.int IntKind.i64 (b (Int.toNat (0 : Int)) (0 : Nat)), D.int IntKind.i64 (b (Int.toNat (0 : Int)) (1 : Nat)), D.int IntKind.i64 (b (Int.toNat (0 : Int)) (2 : Nat))])), ((0 : Nat), some (Blk.cells [V.d (D.int IntKind.i64 (0 : Int)), V.d (D.int IntKind.i64 (0 : Int)), V.d (D.int IntKind.i64 (0 : Int)), V.d (D.int IntKind.i64 (0 : Int)), V.d (D.int IntKind.i64 (0 : Int)), V.d (D.int IntKind.i64 (0 : Int))]))] } else False else False else False else TS E (FnI.nt I51) (0 : Nat) (sub (FnI.code I51) [true, true, true]) [((11 : Nat), V.d (D.bool false)), ((0 : Nat), V.d (D.rows n (6 : Nat) fun (i : Nat) => [D.int IntKind.i64 (b i (0 : Nat)), D.int IntKind.i64 (b i (1 : Nat)), D.int IntKind.i64 (b i (2 : Nat)), D.int IntKind.i64 (b i (3 : Nat)), D.int IntKind.i64 (b i (4 : Nat)), D.int IntKind.i64 (b i (5 : Nat))])), ((2 : Nat), V.ptr (0 : Nat) (0 : Nat)), ((4 : Nat), V.d D.nsl), ((5 : Nat), V.d D.nsl), ((6 : Nat), V.d (D.int IntKind.i64 (0 : Int))), ((11 : Nat), V.d (D.bool (ltZ (0 : Int) (↑n : Int))))] { n := (1 : Nat), b := [((0 : Nat), some (Blk.cells [V.d (D.int IntKind.i64 (0 : Int)), V.d (D.int IntKind.i64 (0 : Int)), V.d (D.int IntKind.i64 (0 : Int)), V.d (D.int IntKind.i64 (0 : Int)), V.d (D.int IntKind.i64 (0 : Int)), V.d (D.int IntKind.i64 (0 : Int))]))] } (QF (Env.tab E) (FnI.res I51) (jnR n b))) (by as_aux_lemma => kernel_rfl) ?_
    simp only [show Int.toNat 0 = 0 from rfl]
    have hb : bxR (b 0 0) (b 0 1) (b 0 2) (b 0 3) (b 0 4) (b 0 5) = bxI b 0 := rfl
    rw [hb]
    refine way_iff.2 ⟨fun hc => ?_, fun hc => ?_⟩
    · simp only [ltZ_eq, decide_eq_true_eq] at hc
      have hI : inI 0 n = true := by simp only [inI, ltZ_eq, leZ_eq, Bool.and_eq_true, decide_eq_true_eq]; omega
      simp only [hI, cond_true]
      refine way_iff.2 ⟨fun h1 => ?_, fun h1 => ?_⟩
      · rw [Bool.not_eq_true'] at h1
        rw [jn_bad (k := 0) (by omega) h1]; rfl
      · rw [Bool.not_eq_false'] at h1
        refine ⟨1, ⟨by omega, fun i hi => ?_⟩, by omega, by show 1 ≤ 3; decide, ⟨?_, ?_, rfl, rfl, Nat.zero_le _⟩⟩
        · obtain rfl : i = 0 := by omega
          exact h1
        · show SLe _ (sJ1 n b 1); unfold sJ1; (repeat (first | exact SLe.nil _ | refine SLe.cons rfl (VLe.refl _) ?_))
        · refine BSub.cons rfl (BkLe.refl _) (BSub.cons rfl (BkLe.rows fun i hi => ?_) (BSub.cons rfl (BkLe.rows fun i hi => ?_) (BSub.nil _)))
          · obtain rfl : i = 0 := by omega
            rfl
          · obtain rfl : i = 0 := by omega
            rfl
    · simp only [ltZ_eq, decide_eq_false_iff_not] at hc
      obtain rfl : n = 0 := by omega
      refine TS.run [40] ok51.ord eqs_ok csY_ok (by repeat (first | exact QF.noPanic | refine TSR.noPanic ?_ | refine NoPanic.thenP ?_ | refine NoPanic.inB ?_)) (by first | exact .inl (by as_aux_lemma => kernel_rfl) | exact .inr (by as_aux_lemma => kernel_rfl)) ?_
      refine @vc_of _ (V.tup [V.agg [V.d (D.int IntKind.i64 (0 : Int)), V.d (D.int IntKind.i64 (0 : Int)), V.d (D.int IntKind.i64 (0 : Int)), V.d (D.int IntKind.i64 (0 : Int)), V.d (D.int IntKind.i64 (0 : Int)), V.d (D.int IntKind.i64 (0 : Int))], V.d (D.int IntKind.i64 (1 : Int))] = jnR (0 : Nat) b) (by as_aux_lemma => kernel_rfl) ?_
      rfl
  | succ k =>
    show TS E _ 0 _ (sJ1 n b (k + 1)) (hJ1 b (k + 1)) _
    obtain ⟨p, hp⟩ : ∃ p, p = k + 1 := ⟨_, rfl⟩
    rw [← hp] at hk1 hk2 ⊢
    refine TS.run [] ok51.ord eqs_ok csY_ok (by repeat (first | exact QF.noPanic | refine TSR.noPanic ?_ | refine NoPanic.thenP ?_ | refine NoPanic.inB ?_)) (by first | exact .inl (by as_aux_lemma => kernel_rfl) | exact .inr (by as_aux_lemma => kernel_rfl)) ?_
    refine @vc_of _ (bif ltZ (↑p : Int) (↑n : Int) then bif inI (↑p : Int) n then bif !bxR (b (Int.toNat (↑p : Int)) (0 : Nat)) (b (Int.toNat (↑p : Int)) (1 : Nat)) (b (Int.toNat (↑p : Int)) (2 : Nat)) (b (Int.toNat (↑p : Int)) (3 : Nat)) (b (Int.toNat (↑p : Int)) (4 : Nat)) (b (Int.toNat (↑p : Int)) (5 : Nat)) then V.tup [V.agg [V.d (D.int IntKind.i64 (0 : Int)), V.d (D.int IntKind.i64 (0 : Int)), V.d (D.int IntKind.i64 (0 : Int)), V.d (D.int IntKind.i64 (0 : Int)), V.d (D.int IntKind.i64 (0 : Int)), V.d (D.int IntKind.i64 (0 : Int))], V.d (D.int IntKind.i64 (1 : Int))] = jnR n b else bif inI (↑p : Int) n then bif decide (p = p) && decide ((p + (1 : Nat)) * Ty.bytes (Prod.snd ((24 : Nat), { d := TypeInfo.desc Try.t23, size := (3 : Nat), bytes := (24 : Nat), zero := TypeInfo.zero Try.t24 })) ≤ (140737488355328 : Nat)) then bif inI (↑p : Int) n then bif decide (p = p) && decide ((p + (1 : Nat)) * Ty.bytes (Prod.snd ((24 : Nat), { d := TypeInfo.desc Try.t23, size := (3 : Nat), bytes := (24 : Nat), zero := TypeInfo.zero Try.t24 })) ≤ (140737488355328 : Nat)) then bif inRb IntKind.i64 ((↑p : Int) + (1 : Int)) then Again (0 : Nat) (sJ n b) (hJ b) (fun (k : Nat) => k ≤ n ∧ ∀ (i : Nat), i < k → bxI b i = true) (fun (k : Nat) => n - k) p [((0 : Nat), V.d (D.rows n (6 : Nat) fun (i : Nat) => [D.int IntKind.i64 (b i (0 : Nat)), D.int IntKind.i64 (b i (1 : Nat)), D.int IntKind.i64 (b i (2 : Nat)), D.int IntKind.i64 (b i (3 : Nat)), D.int IntKind.i64 (b i (4 : Nat)), D.int IntKind.i64 (b i (5 : Nat))])), ((2 : Nat), V.ptr (0 : Nat) (0 : Nat)), ((4 : Nat), V.sl (3 : Nat) (1 : Nat) (0 : Nat) (p + (1 : Nat))), ((5 : Nat), V.sl (3 : Nat) (2 : Nat) (0 : Nat) (p + (1 : Nat))), ((6 : Nat), V.d (D.int IntKind.i64 ((↑p : Int) + (1 : Int))))] { n := (3 : Nat), b := [((0 : Nat), some (Blk.cells [V.d (D.int IntKind.i64 (0 : Int)), V.d (D.int IntKind.i64 (0 : Int)), V.d (D.int IntKind.i64 (0 : Int)), V.d (D.int IntKind.i64 (0 : Int)), V.d (D.int IntKind.i64 (0 : Int)), V.d (D.int IntKind.i64 (0 : Int))])), ((1 : Nat), some (Blk.rows (p + (1 : Nat)) (3 : Nat) fun (a : Nat) => [D.int IntKind.i64 (bif Nat.blt a p then b a (0 : Nat) else b (Int.toNat (↑p : Int)) (0 : Nat)), D.int IntKind.i64 (bif Nat.blt a p then b a (1 : Nat) else b (Int.toNat (↑p : Int)) (1 : Nat)), D.int IntKind.i64 (bif Nat.blt a p then b a (2 : Nat) else b (Int.toNat (↑p : Int)) (2 : Nat))])), ((2 : Nat), some (Blk.rows (p + (1 : Nat)) (3 : Nat) fun (a : Nat) => [D.int IntKind.i64 (bif Nat.blt a p then b a (3 : Nat) else b (Int.toNat (↑p : Int)) (3 : Nat)), D.int IntKind.i64 (bif Nat.blt a p then b a (4 : Nat) else b (Int.toNat (↑p : Int)) (4 : Nat)), D.int IntKind.i64 (bif Nat.blt a p then b a (5 : Nat) else b (Int.toNat (↑p : Int)) (5 : Nat))]))] } else False else False else False else False else False else False else TS E (FnI.nt I51) (0 : Nat) (sub (FnI.code I51) [true, true, true]) [((11 : Nat), V.d (D.bool false)), ((0 : Nat), V.d (D.rows n (6 : Nat) fun (i : Nat) => [D.int IntKind.i64 (b i (0 : Nat)), D.int IntKind.i64 (b i (1 : Nat)), D.int IntKind.i64 (b i (2 : Nat)), D.int IntKind.i64 (b i (3 : Nat)), D.int IntKind.i64 (b i (4 : Nat)), D.int IntKind.i64 (b i (5 : Nat))])), ((2 : Nat), V.ptr (0 : Nat) (0 : Nat)), ((4 : Nat), V.sl (3 : Nat) (1 : Nat) (0 : Nat) p), ((5 : Nat), V.sl (3 : Nat) (2 : Nat) (0 : Nat) p), ((6 : Nat), V.d (D.int IntKind.i64 (↑p : Int))), ((11 : Nat), V.d (D.bool (ltZ (↑p : Int) (↑n : Int))))] { n := (3 : Nat), b := [((0 : Nat), some (Blk.cells [V.d (D.int IntKind.i64 (0 : Int)), V.d (D.int IntKind.i64 (0 : Int)), V.d (D.int IntKind.i64 (0 : Int)), V.d (D.int IntKind.i64 (0 : Int)), V.d (D.int IntKind.i64 (0 : Int)), V.d (D.int IntKind.i64 (0 : Int))])), ((1 : Nat), some (Blk.rows p (3 : Nat) fun (i : Nat) => [D.int IntKind.i64 (b i (0 : Nat)), D.int IntKind.i64 (b i (1 : Nat)), D.int IntKind.i64 (b i (2 : Nat))])), ((2 : Nat), some (Blk.rows p (3 : Nat) fun (i : Nat) => [D.int IntKind.i64 (b i (3 : Nat)), D.int IntKind.i64 (b i (4 : Nat)), D.int IntKind.i64 (b i (5 : Nat))]))] } (QF (Env.tab E) (FnI.res I51) (jnR n b))) (by as_aux_lemma => kernel_rfl) ?_
    simp only [Int.toNat_natCast]
    have hb : bxR (b p 0) (b p 1) (b p 2) (b p 3) (b p 4) (b p 5) = bxI b p := rfl
    rw [hb]
    refine way_iff.2 ⟨fun hc => ?_, fun hc => ?_⟩
    · simp only [ltZ_eq, decide_eq_true_eq] at hc
      have hI : inI (p : Int) n = true := by simp only [inI, ltZ_eq, leZ_eq, Bool.and_eq_true, decide_eq_true_eq]; omega
      have hK : inRb .i64 ((p : Int) + 1) = true := by simp only [inRb, loK, hiK, leZ_eq, Bool.and_eq_true, decide_eq_true_eq]; omega
      have hB : (decide True && decide ((p + 1) * 24 ≤ 140737488355328)) = true := by
        rw [Bool.and_eq_true]; exact ⟨rfl, decide_eq_true (by omega)⟩
      simp only [hI, hK, cond_true]
      refine way_iff.2 ⟨fun h1 => ?_, fun h1 => ?_⟩
      · rw [Bool.not_eq_true'] at h1
        rw [jn_bad (k := p) (by omega) h1]; rfl
      · rw [Bool.not_eq_false'] at h1
        refine need_iff.2 ⟨hB, need_iff.2 ⟨hB, ?_⟩⟩
        refine ⟨p + 1, ⟨by omega, fun i hi => ?_⟩, by omega, by rw [hp]; exact Nat.le_refl 3, ⟨?_, ?_, rfl, rfl, Nat.zero_le _⟩⟩
        · rcases Nat.lt_or_ge i p with h | h
          · exact hk2 i h
          · obtain rfl : i = p := by omega
            exact h1
        · show SLe _ (sJ1 n b (p + 1)); unfold sJ1; (repeat (first | exact SLe.nil _ | refine SLe.cons rfl (VLe.refl _) ?_))
        · have hx : ∀ i, i < p + 1 → ∀ j, (bif Nat.blt i p then b i j else b p j) = b i j := fun i hi j => by
            rcases Nat.lt_or_ge i p with h | h
            · rw [blt_iff.2 h]; rfl
            · obtain rfl : i = p := by omega
              rw [blt_false (Nat.le_refl i)]; rfl
          refine BSub.cons rfl (BkLe.refl _) (BSub.cons rfl (BkLe.rows fun i hi => ?_) (BSub.cons rfl (BkLe.rows fun i hi => ?_) (BSub.nil _)))
          · simp only [hx i hi]; rfl
          · simp only [hx i hi]; rfl
    · simp only [ltZ_eq, decide_eq_false_iff_not] at hc
      obtain rfl : p = n := by omega
      have hG : jnG p b = false := by
        unfold jnG
        rw [show allBx p b = true from allN_iff.2 hk2, hp]; rfl
      have hR : jnR p b = .tup [.agg (jo6 b p), vi 0] := by unfold jnR jnV jnE; rw [hG]; rfl
      have hp0 : decide ((p : Int) = 0) = false := decide_eq_false (by omega)
      refine TS.run [] ok51.ord eqs_ok csY_ok (by repeat (first | exact QF.noPanic | refine TSR.noPanic ?_ | refine NoPanic.thenP ?_ | refine NoPanic.inB ?_)) (by first | exact .inl (by as_aux_lemma => kernel_rfl) | exact .inr (by as_aux_lemma => kernel_rfl)) ?_
      refine @vc_of _ (bif decide ((↑p : Int) = (0 : Int)) then V.tup [V.agg [V.d (D.int IntKind.i64 (0 : Int)), V.d (D.int IntKind.i64 (0 : Int)), V.d (D.int IntKind.i64 (0 : Int)), V.d (D.int IntKind.i64 (0 : Int)), V.d (D.int IntKind.i64 (0 : Int)), V.d (D.int IntKind.i64 (0 : Int))], V.d (D.int IntKind.i64 (1 : Int))] = jnR p b else bif decide (p ≤ p) && true then ((3 : Nat) = (3 : Nat) ∧ ∀ (i : Nat), i < p → [D.int IntKind.i64 (b i (0 : Nat)), D.int IntKind.i64 (b i (1 : Nat)), D.int IntKind.i64 (b i (2 : Nat))] = [D.int IntKind.i64 (jD ((fun (i : Nat) => [D.int IntKind.i64 (b i (0 : Nat)), D.int IntKind.i64 (b i (1 : Nat)), D.int IntKind.i64 (b i (2 : Nat))]) i) (0 : Nat)), D.int IntKind.i64 (jD ((fun (i : Nat) => [D.int IntKind.i64 (b i (0 : Nat)), D.int IntKind.i64 (b i (1 : Nat)), D.int IntKind.i64 (b i (2 : Nat))]) i) (1 : Nat)), D.int IntKind.i64 (jD ((fun (i : Nat) => [D.int IntKind.i64 (b i (0 : Nat)), D.int IntKind.i64 (b i (1 : Nat)), D.int IntKind.i64 (b i (2 : Nat))]) i) (2 : Nat))]) ∧ bif decide (p ≤ p) && true then ((3 : Nat) = (3 : Nat) ∧ ∀ (i : Nat), i < p → [D.int IntKind.i64 (b i (3 : Nat)), D.int IntKind.i64 (b i (4 : Nat)), D.int IntKind.i64 (b i (5 : Nat))] = [D.int IntKind.i64 (jD ((fun (i : Nat) => [D.int IntKind.i64 (b i (3 : Nat)), D.int IntKind.i64 (b i (4 : Nat)), D.int IntKind.i64 (b i (5 : Nat))]) i) (0 : Nat)), D.int IntKind.i64 (jD ((fun (i : Nat) => [D.int IntKind.i64 (b i (3 : Nat)), D.int IntKind.i64 (b i (4 : Nat)), D.int IntKind.i64 (b i (5 : Nat))]) i) (1 : Nat)), D.int IntKind.i64 (jD ((fun (i : Nat) => [D.int IntKind.i64 (b i (3 : Nat)), D.int IntKind.i64 (b i (4 : Nat)), D.int IntKind.i64 (b i (5 : Nat))]) i) (2 : Nat))]) ∧ V.tup [V.agg [V.d (D.int IntKind.i64 (edg false (fun (i j : Nat) => jD [D.int IntKind.i64 (b i (0 : Nat)), D.int IntKind.i64 (b i (1 : Nat)), D.int IntKind.i64 (b i (2 : Nat))] j) p (0 : Nat))), V.d (D.int IntKind.i64 (edg false (fun (i j : Nat) => jD [D.int IntKind.i64 (b i (0 : Nat)), D.int IntKind.i64 (b i (1 : Nat)), D.int IntKind.i64 (b i (2 : Nat))] j) p (1 : Nat))), V.d (D.int IntKind.i64 (edg false (fun (i j : Nat) => jD [D.int IntKind.i64 (b i (0 : Nat)), D.int IntKind.i64 (b i (1 : Nat)), D.int IntKind.i64 (b i (2 : Nat))] j) p (2 : Nat))), V.d (D.int IntKind.i64 (edg true (fun (i j : Nat) => jD [D.int IntKind.i64 (b i (3 : Nat)), D.int IntKind.i64 (b i (4 : Nat)), D.int IntKind.i64 (b i (5 : Nat))] j) p (0 : Nat))), V.d (D.int IntKind.i64 (edg true (fun (i j : Nat) => jD [D.int IntKind.i64 (b i (3 : Nat)), D.int IntKind.i64 (b i (4 : Nat)), D.int IntKind.i64 (b i (5 : Nat))] j) p (1 : Nat))), V.d (D.int IntKind.i64 (edg true (fun (i j : Nat) => jD [D.int IntKind.i64 (b i (3 : Nat)), D.int IntKind.i64 (b i (4 : Nat)), D.int IntKind.i64 (b i (5 : Nat))] j) p (2 : Nat)))], V.d (D.int IntKind.i64 (0 : Int))] = jnR p b else False else False) (by as_aux_lemma => kernel_rfl) ?_
      rw [hp0, hR]
      have q0 : edg false (fun i j => jD [D.int .i64 (b i 0), D.int .i64 (b i 1), D.int .i64 (b i 2)] j) p 0 = jmL b p 0 := by rw [hp]; exact (edg_c (v := fun i j => jD [D.int .i64 (b i 0), D.int .i64 (b i 1), D.int .i64 (b i 2)] j) (v' := b) (j := 0) (j' := 0) (fun i => rfl) _).trans (edg_f b k 0)
      have q1 : edg false (fun i j => jD [D.int .i64 (b i 0), D.int .i64 (b i 1), D.int .i64 (b i 2)] j) p 1 = jmL b p 1 := by rw [hp]; exact (edg_c (v := fun i j => jD [D.int .i64 (b i 0), D.int .i64 (b i 1), D.int .i64 (b i 2)] j) (v' := b) (j := 1) (j' := 1) (fun i => rfl) _).trans (edg_f b k 1)
      have q2 : edg false (fun i j => jD [D.int .i64 (b i 0), D.int .i64 (b i 1), D.int .i64 (b i 2)] j) p 2 = jmL b p 2 := by rw [hp]; exact (edg_c (v := fun i j => jD [D.int .i64 (b i 0), D.int .i64 (b i 1), D.int .i64 (b i 2)] j) (v' := b) (j := 2) (j' := 2) (fun i => rfl) _).trans (edg_f b k 2)
      have q3 : edg true (fun i j => jD [D.int .i64 (b i 3), D.int .i64 (b i 4), D.int .i64 (b i 5)] j) p 0 = jmH b p 3 := by rw [hp]; exact (edg_c (v := fun i j => jD [D.int .i64 (b i 3), D.int .i64 (b i 4), D.int .i64 (b i 5)] j) (v' := b) (j := 0) (j' := 3) (fun i => rfl) _).trans (edg_t b k 3)
      have q4 : edg true (fun i j => jD [D.int .i64 (b i 3), D.int .i64 (b i 4), D.int .i64 (b i 5)] j) p 1 = jmH b p 4 := by rw [hp]; exact (edg_c (v := fun i j => jD [D.int .i64 (b i 3), D.int .i64 (b i 4), D.int .i64 (b i 5)] j) (v' := b) (j := 1) (j' := 4) (fun i => rfl) _).trans (edg_t b k 4)
      have q5 : edg true (fun i j => jD [D.int .i64 (b i 3), D.int .i64 (b i 4), D.int .i64 (b i 5)] j) p 2 = jmH b p 5 := by rw [hp]; exact (edg_c (v := fun i j => jD [D.int .i64 (b i 3), D.int .i64 (b i 4), D.int .i64 (b i 5)] j) (v' := b) (j := 2) (j' := 5) (fun i => rfl) _).trans (edg_t b k 5)
      rw [q0, q1, q2, q3, q4, q5]
      refine need_iff.2 ⟨by simp, ⟨⟨rfl, fun _ _ => rfl⟩, need_iff.2 ⟨by simp, ⟨⟨rfl, fun _ _ => rfl⟩, rfl⟩⟩⟩⟩
end Go.Proofs.Ytmgckodihnmjoaa
