/-
  The law ViewBox: what the code comes to. Conditions: none.
-/
import Derived.Test.YtmgckodihnmjoaaVwG
set_option linter.unusedVariables false
set_option linter.unusedSimpArgs false
set_option maxRecDepth 20000
namespace Go.Proofs.Ytmgckodihnmjoaa
open Oc
set_option maxRecDepth 100000
theorem span_H {n0 n1 n2 d a b c x y z : Int} (h : spE n0 n1 n2 d a b c x y z = 0) : bxR a b c x y z = true ∧ spH n0 n1 n2 d a b c x y z = d + max (mulV n0 a) (mulV n0 x) + max (mulV n1 b) (mulV n1 y) + max (mulV n2 c) (mulV n2 z) ∧ En n0 n1 n2 d a b c x y z := by
  unfold spE at h; unfold spH
  cases hG : spG n0 n1 n2 d a b c x y z
  · rw [hG] at h
    have e := en_0 h
    refine ⟨?_, e.H, e⟩
    unfold spG at hG
    cases hb : bxR a b c x y z
    · rw [hb] at hG; cases hp : plR n0 n1 n2 d <;> rw [hp] at hG <;> cases hG
    · rfl
  · rw [hG] at h; cases h
theorem mul_u (n t : Int) (h : mulE n t = 0) : (n = 65536 → mulV n t = t) ∧ (n = -65536 → mulV n t = -t) ∧ (n = 0 → mulV n t = 0) := by
  rw [mulV_0 h]; unfold mulP
  refine ⟨?_, ?_, ?_⟩ <;> rintro rfl <;> omega
theorem andK_comm (q : IntKind) (i j : Int) : andK q i j = andK q j i := by rw [andK_eq, andK_eq, BitVec.and_comm]
theorem bx_le {a b c x y z : Int} (h : bxR a b c x y z = true) : a ≤ x ∧ b ≤ y ∧ c ≤ z := by
  unfold bxR at h
  cases h1 : rightL [a, b, c]
  · rw [h1] at h; cases h
  cases h2 : rightL [x, y, z]
  · rw [h1, h2] at h; cases h
  rw [h1, h2] at h
  have h : (!!allB [decide (min a x = a), decide (min b y = b), decide (min c z = c)]) = true := h
  rw [Bool.not_not, allB_iff] at h
  simp only [List.mem_cons, List.not_mem_nil, or_false, forall_eq_or_imp, forall_eq, decide_eq_true_eq] at h
  omega
theorem hit_k {n0 n1 n2 d a b c x y z : Int} (h : spE n0 n1 n2 d a b c x y z = 0) :
    (n0 = 65536 ∧ n1 = 0 ∧ n2 = 0 → spH n0 n1 n2 d a b c x y z = d + x) ∧ (n0 = -65536 ∧ n1 = 0 ∧ n2 = 0 → spH n0 n1 n2 d a b c x y z = d - a) ∧
    (n0 = 0 ∧ n1 = 65536 ∧ n2 = 0 → spH n0 n1 n2 d a b c x y z = d + y) ∧ (n0 = 0 ∧ n1 = -65536 ∧ n2 = 0 → spH n0 n1 n2 d a b c x y z = d - b) ∧
    (n0 = 0 ∧ n1 = 0 ∧ n2 = 65536 → spH n0 n1 n2 d a b c x y z = d + z) ∧ (n0 = 0 ∧ n1 = 0 ∧ n2 = -65536 → spH n0 n1 n2 d a b c x y z = d - c) := by
  obtain ⟨hb, hH, e⟩ := span_H h
  obtain ⟨l0, l1, l2⟩ := bx_le hb
  rw [hH]
  have e0 := e.a0; have e1 := e.x0; have e2 := e.a1; have e3 := e.x1; have e4 := e.a2; have e5 := e.x2
  refine ⟨?_, ?_, ?_, ?_, ?_, ?_⟩ <;> rintro ⟨rfl, rfl, rfl⟩ <;> (first | rw [(mul_u _ _ e0).1 rfl, (mul_u _ _ e1).1 rfl] | rw [(mul_u _ _ e0).2.1 rfl, (mul_u _ _ e1).2.1 rfl] | rw [(mul_u _ _ e0).2.2 rfl, (mul_u _ _ e1).2.2 rfl]) <;> (first | rw [(mul_u _ _ e2).1 rfl, (mul_u _ _ e3).1 rfl] | rw [(mul_u _ _ e2).2.1 rfl, (mul_u _ _ e3).2.1 rfl] | rw [(mul_u _ _ e2).2.2 rfl, (mul_u _ _ e3).2.2 rfl]) <;> (first | rw [(mul_u _ _ e4).1 rfl, (mul_u _ _ e5).1 rfl] | rw [(mul_u _ _ e4).2.1 rfl, (mul_u _ _ e5).2.1 rfl] | rw [(mul_u _ _ e4).2.2 rfl, (mul_u _ _ e5).2.2 rfl]) <;> omega
theorem six_cases {i : Nat} (h : i < 6) : i = 0 ∨ i = 1 ∨ i = 2 ∨ i = 3 ∨ i = 4 ∨ i = 5 := by omega
/-- In a box's sides. -/
theorem box_sees {a b c x y z ly : Int} {r : Nat → Int} (hb : bsE a b c x y z = 0) (hs : seE 6 (sdB a b c x y z) 0 0 0 0 255 ly r = 0) (hl : decide (andK .i64 255 ly = 0) = false) : seO 6 (sdB a b c x y z) 0 0 0 0 255 ly r = meetB a b c x y z (r 0) (r 1) (r 2) (r 3) (r 4) (r 5) := by
  have hbx : bxR a b c x y z = true ∧ negV a = 0 - a ∧ negV b = 0 - b ∧ negV c = 0 - c := by
    unfold bsE at hb
    cases hG : bxR a b c x y z
    · rw [hG] at hb; cases hb
    rw [hG] at hb
    obtain ⟨o0, o1, o2, _⟩ := bx_ok hG
    cases q0 : decide (a = -2147483648)
    · obtain ⟨e0, v0⟩ := neg_ok o0 q0
      cases q1 : decide (b = -2147483648)
      · obtain ⟨e1, v1⟩ := neg_ok o1 q1
        cases q2 : decide (c = -2147483648)
        · exact ⟨rfl, v0, v1, (neg_ok o2 q2).2⟩
        · rw [e0, e1, neg_no q2] at hb; cases hb
      · rw [e0, neg_no q1] at hb; cases hb
    · rw [neg_no q0] at hb; cases hb
  obtain ⟨hG, v0, v1, v2⟩ := hbx
  obtain ⟨g0, g1, g2⟩ := bx_le hG
  have side : ∀ i, i < 6 → shE (sdB a b c x y z) r i = 0 → bxR (r 0) (r 1) (r 2) (r 3) (r 4) (r 5) = true ∧ ((i = 0 → shH (sdB a b c x y z) r i = -a + r 3) ∧ (i = 1 → shH (sdB a b c x y z) r i = x - r 0) ∧ (i = 2 → shH (sdB a b c x y z) r i = -b + r 4) ∧ (i = 3 → shH (sdB a b c x y z) r i = y - r 1) ∧ (i = 4 → shH (sdB a b c x y z) r i = -c + r 5) ∧ (i = 5 → shH (sdB a b c x y z) r i = z - r 2)) := fun i hi he => by
    have k := hit_k he
    refine ⟨(span_H he).1, ?_, ?_, ?_, ?_, ?_, ?_⟩ <;> rintro rfl
    · have := k.1 ⟨rfl, rfl, rfl⟩; show _ = _; exact this.trans (by show negV a + r 3 = _; omega)
    · have := k.2.1 ⟨rfl, rfl, rfl⟩; exact this
    · have := k.2.2.1 ⟨rfl, rfl, rfl⟩; exact this.trans (by show negV b + r 4 = _; omega)
    · have := k.2.2.2.1 ⟨rfl, rfl, rfl⟩; exact this
    · have := k.2.2.2.2.1 ⟨rfl, rfl, rfl⟩; exact this.trans (by show negV c + r 5 = _; omega)
    · have := k.2.2.2.2.2 ⟨rfl, rfl, rfl⟩; exact this
  unfold seE at hs; unfold seO
  cases h1 : vwR 6 (sdB a b c x y z) 0 0 0 0 255
  · rw [h1] at hs; cases hs
  rw [h1, hl] at hs
  rw [hl]
  rcases idxN_cases 6 (hitB (sdB a b c x y z) r) with ⟨i, hi, hp, e⟩ | ⟨e, hm⟩
  · have e : seI 6 (sdB a b c x y z) r = i := e
    rw [e, leZ_nat] at hs ⊢
    have hs : shE (sdB a b c x y z) r i = 0 := hs
    unfold hitB at hp
    rw [hs, show decide ((0 : Int) = 0) = true from rfl, ltZ_eq] at hp
    have hp : shH (sdB a b c x y z) r i < 0 := by simpa using hp
    obtain ⟨hr, k0, k1, k2, k3, k4, k5⟩ := side i hi hs
    obtain ⟨r0, r1, r2⟩ := bx_le hr
    show false = meetB a b c x y z (r 0) (r 1) (r 2) (r 3) (r 4) (r 5)
    have : ¬ (max a (r 0) ≤ min x (r 3) ∧ max b (r 1) ≤ min y (r 4) ∧ max c (r 2) ≤ min z (r 5)) := by
      rcases six_cases hi with h | h | h | h | h | h
      · have := k0 h; omega
      · have := k1 h; omega
      · have := k2 h; omega
      · have := k3 h; omega
      · have := k4 h; omega
      · have := k5 h; omega
    unfold meetB
    simp only [leZ_eq]
    symm
    rw [← Bool.not_eq_true]
    simpa only [Bool.and_eq_true, decide_eq_true_eq] using this
  · have e : seI 6 (sdB a b c x y z) r = -1 := e
    rw [e] at hs ⊢
    have hs : spE 0 0 0 0 (r 0) (r 1) (r 2) (r 3) (r 4) (r 5) = 0 := hs
    show decide (spE 0 0 0 0 (r 0) (r 1) (r 2) (r 3) (r 4) (r 5) = 0) = meetB a b c x y z (r 0) (r 1) (r 2) (r 3) (r 4) (r 5)
    rw [decide_eq_true hs]
    have nh : ∀ i, i < 6 → shE (sdB a b c x y z) r i = 0 ∧ 0 ≤ shH (sdB a b c x y z) r i := fun i hi => by
      have := hm i hi
      unfold hitB at this
      by_cases q : shE (sdB a b c x y z) r i = 0
      · rw [q, show decide ((0 : Int) = 0) = true from rfl, ltZ_eq] at this
        have this : ¬ shH (sdB a b c x y z) r i < 0 := by simpa using this
        exact ⟨q, by omega⟩
      · rw [decide_eq_false q] at this; cases this
    obtain ⟨n0, m0⟩ := nh 0 (by decide)
    obtain ⟨n1, m1⟩ := nh 1 (by decide)
    obtain ⟨n2, m2⟩ := nh 2 (by decide)
    obtain ⟨n3, m3⟩ := nh 3 (by decide)
    obtain ⟨n4, m4⟩ := nh 4 (by decide)
    obtain ⟨n5, m5⟩ := nh 5 (by decide)
    obtain ⟨hr, k0, _⟩ := side 0 (by decide) n0
    obtain ⟨_, _, k1, _⟩ := side 1 (by decide) n1
    obtain ⟨_, _, _, k2, _⟩ := side 2 (by decide) n2
    obtain ⟨_, _, _, _, k3, _⟩ := side 3 (by decide) n3
    obtain ⟨_, _, _, _, _, k4, _⟩ := side 4 (by decide) n4
    obtain ⟨_, _, _, _, _, _, k5⟩ := side 5 (by decide) n5
    obtain ⟨r0, r1, r2⟩ := bx_le hr
    have p0 := k0 rfl; have p1 := k1 rfl; have p2 := k2 rfl; have p3 := k3 rfl; have p4 := k4 rfl; have p5 := k5 rfl
    unfold meetB
    simp only [leZ_eq]
    symm
    simp only [Bool.and_eq_true, decide_eq_true_eq]
    omega
noncomputable def ptV6 : List (Nat × (List V → Option (List Ob × V))) := (65, fun xs => match xs with
    | [.agg [.d (.int .i64 a), .d (.int .i64 b), .d (.int .i64 c), .d (.int .i64 x), .d (.int .i64 y), .d (.int .i64 z)]] => some ([], bsR a b c x y z)
    | _ => none) ::
  (73, fun xs => match xs with
    | [.agg [.d (.int .i64 a), .d (.int .i64 b), .d (.int .i64 c), .d (.int .i64 x), .d (.int .i64 y), .d (.int .i64 z)]] => some ([], bsR a b c x y z)
    | _ => none) ::
  (66, fun xs => match xs with
    | [.agg [.d (.int .i64 a), .d (.int .i64 b), .d (.int .i64 c), .d (.int .i64 x), .d (.int .i64 y), .d (.int .i64 z)], .agg [.d (.int .i64 a2), .d (.int .i64 b2), .d (.int .i64 c2), .d (.int .i64 x2), .d (.int .i64 y2), .d (.int .i64 z2)]] => some ([], vb (meetB a b c x y z a2 b2 c2 x2 y2 z2))
    | _ => none) :: ptV5
theorem ptV6_ok : PtOk E ptV6 := by
  refine PtOk.cons ok65.en (fun args l r e hl => ?_) (PtOk.cons ok73.en (fun args l r e hl => ?_) (PtOk.cons ok66.en (fun args l r e hl => ?_) (ptV5_ok)))
  · split at e
    · rename_i a b c x y z; cases e; exact vbox_r ..
    · cases e
  · split at e
    · rename_i a b c x y z; cases e; exact rbox_r ..
    · cases e
  · split at e
    · rename_i a b c x y z a2 b2 c2 x2 y2 z2; cases e; exact meet_fn ..
    · cases e
noncomputable def csV6 : Cs := csN E.tab eqs fnV none (csP ptV6) 10
theorem csV6_ok : CsOk E csV6 := csN_ok fnV_ok eqs_ok (csP_ok ptV6_ok) 10
theorem vbx_r (a b c x y z : Int) (i0 i1 i2 i3 : Int) (cl : Bool) (ly : Int) (r : Nat → Int) : Fn E 12 [bx a b c x y z, rc i0 i1 i2 i3 cl ly r] (vb true) := by
  refine Fn.of_TS ok12 rfl rfl rfl fun hr => ?_
  refine TS.seq rfl ?_
  refine TS.run [] ok12.ord eqs_ok csV6_ok (by repeat (first | exact QF.noPanic | exact QCF.noPanic | refine TSR.noPanic ?_ | refine NoPanic.thenP ?_ | refine NoPanic.inB ?_)) (by first | exact .inl (by as_aux_lemma => kernel_rfl) | exact .inr (by as_aux_lemma => kernel_rfl)) ?_
  refine @vc_of _ (TS E (FnI.nt I12) (0 : Nat) (sub (FnI.code I12) [true]) [((2 : Nat), V.ptr (0 : Nat) (0 : Nat)), ((3 : Nat), V.ptr (1 : Nat) (0 : Nat))] { n := (2 : Nat), b := [((0 : Nat), some (Blk.cells [V.d (D.int IntKind.i64 a), V.d (D.int IntKind.i64 b), V.d (D.int IntKind.i64 c), V.d (D.int IntKind.i64 x), V.d (D.int IntKind.i64 y), V.d (D.int IntKind.i64 z)])), ((1 : Nat), some (Blk.cells [V.d (D.int IntKind.i64 i0), V.d (D.int IntKind.i64 i1), V.d (D.int IntKind.i64 i2), V.d (D.int IntKind.i64 i3), V.d (D.bool cl), V.d (D.int IntKind.i64 ly), V.d (D.int IntKind.i64 (r (0 : Nat))), V.d (D.int IntKind.i64 (r (1 : Nat))), V.d (D.int IntKind.i64 (r (2 : Nat))), V.d (D.int IntKind.i64 (r (3 : Nat))), V.d (D.int IntKind.i64 (r (4 : Nat))), V.d (D.int IntKind.i64 (r (5 : Nat)))]))] } (QF (Env.tab E) (FnI.res I12) (vb true))) (by as_aux_lemma => kernel_rfl) ?_
  refine TS.seq rfl ?_
  refine TS.run [] ok12.ord eqs_ok csV6_ok (by repeat (first | exact QF.noPanic | exact QCF.noPanic | refine TSR.noPanic ?_ | refine NoPanic.thenP ?_ | refine NoPanic.inB ?_)) (by first | exact .inl (by as_aux_lemma => kernel_rfl) | exact .inr (by as_aux_lemma => kernel_rfl)) ?_
  refine @vc_of _ (TS E (FnI.nt I12) (0 : Nat) (sub (FnI.code I12) [true, true]) [((2 : Nat), V.ptr (0 : Nat) (0 : Nat)), ((3 : Nat), V.ptr (1 : Nat) (0 : Nat)), ((5 : Nat), V.d (D.rows (bsN a b c x y z) (4 : Nat) fun (i : Nat) => [D.int IntKind.i64 (sdB a b c x y z i (0 : Nat)), D.int IntKind.i64 (sdB a b c x y z i (1 : Nat)), D.int IntKind.i64 (sdB a b c x y z i (2 : Nat)), D.int IntKind.i64 (sdB a b c x y z i (3 : Nat))])), ((6 : Nat), V.d (D.int IntKind.i64 (bsE a b c x y z)))] { n := (2 : Nat), b := [((0 : Nat), some (Blk.cells [V.d (D.int IntKind.i64 a), V.d (D.int IntKind.i64 b), V.d (D.int IntKind.i64 c), V.d (D.int IntKind.i64 x), V.d (D.int IntKind.i64 y), V.d (D.int IntKind.i64 z)])), ((1 : Nat), some (Blk.cells [V.d (D.int IntKind.i64 i0), V.d (D.int IntKind.i64 i1), V.d (D.int IntKind.i64 i2), V.d (D.int IntKind.i64 i3), V.d (D.bool cl), V.d (D.int IntKind.i64 ly), V.d (D.int IntKind.i64 (r (0 : Nat))), V.d (D.int IntKind.i64 (r (1 : Nat))), V.d (D.int IntKind.i64 (r (2 : Nat))), V.d (D.int IntKind.i64 (r (3 : Nat))), V.d (D.int IntKind.i64 (r (4 : Nat))), V.d (D.int IntKind.i64 (r (5 : Nat)))]))] } (QF (Env.tab E) (FnI.res I12) (vb true))) (by as_aux_lemma => kernel_rfl) ?_
  refine TS.seq rfl ?_
  refine TS.run [] ok12.ord eqs_ok csV6_ok (by repeat (first | exact QF.noPanic | exact QCF.noPanic | refine TSR.noPanic ?_ | refine NoPanic.thenP ?_ | refine NoPanic.inB ?_)) (by first | exact .inl (by as_aux_lemma => kernel_rfl) | exact .inr (by as_aux_lemma => kernel_rfl)) ?_
  refine @vc_of _ (bif bif !decide (bsE a b c x y z = (0 : Int)) then true else decide (andK IntKind.i64 ly (255 : Int) = (0 : Int)) then V.d (D.bool true) = vb true else TS E (FnI.nt I12) (0 : Nat) (sub (FnI.code I12) [true, true, true]) [((22 : Nat), V.d (D.bool false)), ((2 : Nat), V.ptr (0 : Nat) (0 : Nat)), ((3 : Nat), V.ptr (1 : Nat) (0 : Nat)), ((5 : Nat), V.d (D.rows (bsN a b c x y z) (4 : Nat) fun (i : Nat) => [D.int IntKind.i64 (sdB a b c x y z i (0 : Nat)), D.int IntKind.i64 (sdB a b c x y z i (1 : Nat)), D.int IntKind.i64 (sdB a b c x y z i (2 : Nat)), D.int IntKind.i64 (sdB a b c x y z i (3 : Nat))])), ((22 : Nat), V.d (D.bool (bif !decide (bsE a b c x y z = (0 : Int)) then true else decide (andK IntKind.i64 ly (255 : Int) = (0 : Int)))))] { n := (2 : Nat), b := [((0 : Nat), some (Blk.cells [V.d (D.int IntKind.i64 a), V.d (D.int IntKind.i64 b), V.d (D.int IntKind.i64 c), V.d (D.int IntKind.i64 x), V.d (D.int IntKind.i64 y), V.d (D.int IntKind.i64 z)])), ((1 : Nat), some (Blk.cells [V.d (D.int IntKind.i64 i0), V.d (D.int IntKind.i64 i1), V.d (D.int IntKind.i64 i2), V.d (D.int IntKind.i64 i3), V.d (D.bool cl), V.d (D.int IntKind.i64 ly), V.d (D.int IntKind.i64 (r (0 : Nat))), V.d (D.int IntKind.i64 (r (1 : Nat))), V.d (D.int IntKind.i64 (r (2 : Nat))), V.d (D.int IntKind.i64 (r (3 : Nat))), V.d (D.int IntKind.i64 (r (4 : Nat))), V.d (D.int IntKind.i64 (r (5 : Nat)))]))] } (QF (Env.tab E) (FnI.res I12) (vb true))) (by as_aux_lemma => kernel_rfl) ?_
  refine way_iff.2 ⟨fun h1 => rfl, fun h1 => ?_⟩
  have hE : bsE a b c x y z = 0 := by
    by_cases q : bsE a b c x y z = 0
    · exact q
    · rw [decide_eq_false q] at h1; cases h1
  have hA : decide (andK .i64 255 ly = 0) = false := by
    rw [hE] at h1
    rw [andK_comm]; exact h1
  have hN : bsN a b c x y z = 6 := by unfold bsN; rw [hE]; rfl
  rw [hN]
  refine TS.seq rfl ?_
  refine TS.run [] ok12.ord eqs_ok csV6_ok (by repeat (first | exact QF.noPanic | exact QCF.noPanic | refine TSR.noPanic ?_ | refine NoPanic.thenP ?_ | refine NoPanic.inB ?_)) (by first | exact .inl (by as_aux_lemma => kernel_rfl) | exact .inr (by as_aux_lemma => kernel_rfl)) ?_
  refine @vc_of _ (((4 : Nat) = (4 : Nat) ∧ ∀ (i : Nat), [D.int IntKind.i64 (sdB a b c x y z i (0 : Nat)), D.int IntKind.i64 (sdB a b c x y z i (1 : Nat)), D.int IntKind.i64 (sdB a b c x y z i (2 : Nat)), D.int IntKind.i64 (sdB a b c x y z i (3 : Nat))] = [D.int IntKind.i64 (jD ((fun (i : Nat) => [D.int IntKind.i64 (sdB a b c x y z i (0 : Nat)), D.int IntKind.i64 (sdB a b c x y z i (1 : Nat)), D.int IntKind.i64 (sdB a b c x y z i (2 : Nat)), D.int IntKind.i64 (sdB a b c x y z i (3 : Nat))]) i) (0 : Nat)), D.int IntKind.i64 (jD ((fun (i : Nat) => [D.int IntKind.i64 (sdB a b c x y z i (0 : Nat)), D.int IntKind.i64 (sdB a b c x y z i (1 : Nat)), D.int IntKind.i64 (sdB a b c x y z i (2 : Nat)), D.int IntKind.i64 (sdB a b c x y z i (3 : Nat))]) i) (1 : Nat)), D.int IntKind.i64 (jD ((fun (i : Nat) => [D.int IntKind.i64 (sdB a b c x y z i (0 : Nat)), D.int IntKind.i64 (sdB a b c x y z i (1 : Nat)), D.int IntKind.i64 (sdB a b c x y z i (2 : Nat)), D.int IntKind.i64 (sdB a b c x y z i (3 : Nat))]) i) (2 : Nat)), D.int IntKind.i64 (jD ((fun (i : Nat) => [D.int IntKind.i64 (sdB a b c x y z i (0 : Nat)), D.int IntKind.i64 (sdB a b c x y z i (1 : Nat)), D.int IntKind.i64 (sdB a b c x y z i (2 : Nat)), D.int IntKind.i64 (sdB a b c x y z i (3 : Nat))]) i) (3 : Nat))]) ∧ TS E (FnI.nt I12) (0 : Nat) (sub (FnI.code I12) [true, true, true, true]) [((2 : Nat), V.ptr (0 : Nat) (0 : Nat)), ((3 : Nat), V.ptr (1 : Nat) (0 : Nat)), ((8 : Nat), V.d (D.bool (seO (6 : Nat) (fun (i j : Nat) => jD [D.int IntKind.i64 (sdB a b c x y z i (0 : Nat)), D.int IntKind.i64 (sdB a b c x y z i (1 : Nat)), D.int IntKind.i64 (sdB a b c x y z i (2 : Nat)), D.int IntKind.i64 (sdB a b c x y z i (3 : Nat))] j) (0 : Int) (0 : Int) (0 : Int) (0 : Int) (255 : Int) ly (nthI [r (0 : Nat), r (1 : Nat), r (2 : Nat), r (3 : Nat), r (4 : Nat), r (5 : Nat)])))), ((9 : Nat), V.d (D.int IntKind.i64 (seE (6 : Nat) (fun (i j : Nat) => jD [D.int IntKind.i64 (sdB a b c x y z i (0 : Nat)), D.int IntKind.i64 (sdB a b c x y z i (1 : Nat)), D.int IntKind.i64 (sdB a b c x y z i (2 : Nat)), D.int IntKind.i64 (sdB a b c x y z i (3 : Nat))] j) (0 : Int) (0 : Int) (0 : Int) (0 : Int) (255 : Int) ly (nthI [r (0 : Nat), r (1 : Nat), r (2 : Nat), r (3 : Nat), r (4 : Nat), r (5 : Nat)]))))] { n := (2 : Nat), b := [((0 : Nat), some (Blk.cells [V.d (D.int IntKind.i64 a), V.d (D.int IntKind.i64 b), V.d (D.int IntKind.i64 c), V.d (D.int IntKind.i64 x), V.d (D.int IntKind.i64 y), V.d (D.int IntKind.i64 z)])), ((1 : Nat), some (Blk.cells [V.d (D.int IntKind.i64 i0), V.d (D.int IntKind.i64 i1), V.d (D.int IntKind.i64 i2), V.d (D.int IntKind.i64 i3), V.d (D.bool cl), V.d (D.int IntKind.i64 ly), V.d (D.int IntKind.i64 (r (0 : Nat))), V.d (D.int IntKind.i64 (r (1 : Nat))), V.d (D.int IntKind.i64 (r (2 : Nat))), V.d (D.int IntKind.i64 (r (3 : Nat))), V.d (D.int IntKind.i64 (r (4 : Nat))), V.d (D.int IntKind.i64 (r (5 : Nat)))]))] } (QF (Env.tab E) (FnI.res I12) (vb true))) (by as_aux_lemma => kernel_rfl) ?_
  refine ⟨⟨rfl, fun _ => rfl⟩, ?_⟩
  have bs := fun hs => box_sees (ly := ly) (r := r) hE hs hA
  have eO : seO 6 (fun (i j : Nat) => jD [D.int IntKind.i64 (sdB a b c x y z i 0), D.int IntKind.i64 (sdB a b c x y z i 1), D.int IntKind.i64 (sdB a b c x y z i 2), D.int IntKind.i64 (sdB a b c x y z i 3)] j) 0 0 0 0 255 ly (nthI [r 0, r 1, r 2, r 3, r 4, r 5]) = seO 6 (sdB a b c x y z) 0 0 0 0 255 ly r := rfl
  have eE : seE 6 (fun (i j : Nat) => jD [D.int IntKind.i64 (sdB a b c x y z i 0), D.int IntKind.i64 (sdB a b c x y z i 1), D.int IntKind.i64 (sdB a b c x y z i 2), D.int IntKind.i64 (sdB a b c x y z i 3)] j) 0 0 0 0 255 ly (nthI [r 0, r 1, r 2, r 3, r 4, r 5]) = seE 6 (sdB a b c x y z) 0 0 0 0 255 ly r := rfl
  rw [eO, eE]
  have er : seE 6 (sdB a b c x y z) 0 0 0 0 255 ly r ≠ 0 → seO 6 (sdB a b c x y z) 0 0 0 0 255 ly r = false := se_err
  generalize seO 6 (sdB a b c x y z) 0 0 0 0 255 ly r = vO at *
  generalize seE 6 (sdB a b c x y z) 0 0 0 0 255 ly r = vE at *
  refine TS.seq rfl ?_
  refine TS.run [] ok12.ord eqs_ok csV6_ok (by repeat (first | exact QF.noPanic | exact QCF.noPanic | refine TSR.noPanic ?_ | refine NoPanic.thenP ?_ | refine NoPanic.inB ?_)) (by first | exact .inl (by as_aux_lemma => kernel_rfl) | exact .inr (by as_aux_lemma => kernel_rfl)) ?_
  refine @vc_of _ (bif !decide (vE = (0 : Int)) then V.d (D.bool !vO) = vb true else TS E (FnI.nt I12) (0 : Nat) (sub (FnI.code I12) [true, true, true, true, true]) [((33 : Nat), V.d (D.bool false)), ((2 : Nat), V.ptr (0 : Nat) (0 : Nat)), ((3 : Nat), V.ptr (1 : Nat) (0 : Nat)), ((8 : Nat), V.d (D.bool vO)), ((33 : Nat), V.d (D.bool !decide (vE = (0 : Int))))] { n := (2 : Nat), b := [((0 : Nat), some (Blk.cells [V.d (D.int IntKind.i64 a), V.d (D.int IntKind.i64 b), V.d (D.int IntKind.i64 c), V.d (D.int IntKind.i64 x), V.d (D.int IntKind.i64 y), V.d (D.int IntKind.i64 z)])), ((1 : Nat), some (Blk.cells [V.d (D.int IntKind.i64 i0), V.d (D.int IntKind.i64 i1), V.d (D.int IntKind.i64 i2), V.d (D.int IntKind.i64 i3), V.d (D.bool cl), V.d (D.int IntKind.i64 ly), V.d (D.int IntKind.i64 (r (0 : Nat))), V.d (D.int IntKind.i64 (r (1 : Nat))), V.d (D.int IntKind.i64 (r (2 : Nat))), V.d (D.int IntKind.i64 (r (3 : Nat))), V.d (D.int IntKind.i64 (r (4 : Nat))), V.d (D.int IntKind.i64 (r (5 : Nat)))]))] } (QF (Env.tab E) (FnI.res I12) (vb true))) (by as_aux_lemma => kernel_rfl) ?_
  refine way_iff.2 ⟨fun he => ?_, fun he => ?_⟩
  · rw [er (by simpa using he)]; rfl
  have he : vE = 0 := by simpa using he
  rw [bs he]
  refine TS.run [] ok12.ord eqs_ok csV6_ok (by repeat (first | exact QF.noPanic | exact QCF.noPanic | refine TSR.noPanic ?_ | refine NoPanic.thenP ?_ | refine NoPanic.inB ?_)) (by first | exact .inl (by as_aux_lemma => kernel_rfl) | exact .inr (by as_aux_lemma => kernel_rfl)) ?_
  refine @vc_of _ (V.d (D.bool (decide (meetB a b c x y z (r (0 : Nat)) (r (1 : Nat)) (r (2 : Nat)) (r (3 : Nat)) (r (4 : Nat)) (r (5 : Nat)) = meetB a b c x y z (r (0 : Nat)) (r (1 : Nat)) (r (2 : Nat)) (r (3 : Nat)) (r (4 : Nat)) (r (5 : Nat))))) = vb true) (by as_aux_lemma => kernel_rfl) ?_
  simp
theorem box_law : ∀ xs, OfVs E.tab 8 [74, 95] xs → Call E 12 xs ⟨0, []⟩ (fun r _ => r = vb true) :=
  law_all (P' := ∀ (a b c x y z i0 i1 i2 i3 : Int) (cl : Bool) (ly x0 x1 x2 x3 x4 x5 : Int), Fn E 12 [.agg [vi a, vi b, vi c, vi x, vi y, vi z], .agg [vi i0, vi i1, vi i2, vi i3, vb cl, vi ly, vi x0, vi x1, vi x2, vi x3, vi x4, vi x5]] (vb true)) (by kernel_rfl) (by kernel_rfl)
    fun a b c x y z i0 i1 i2 i3 cl ly x0 x1 x2 x3 x4 x5 => cast (by kernel_rfl) (vbx_r a b c x y z i0 i1 i2 i3 cl ly (nthI [x0, x1, x2, x3, x4, x5]))
end Go.Proofs.Ytmgckodihnmjoaa
