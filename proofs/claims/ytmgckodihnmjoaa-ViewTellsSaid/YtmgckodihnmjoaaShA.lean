/-
  Boxes and planes: what the code comes to. Conditions: none.
-/
import Derived.Test.YtmgckodihnmjoaaAfD
import Derived.Test.YtmgckodihnmjoaaKD
set_option linter.unusedVariables false
set_option linter.unusedSimpArgs false
set_option maxRecDepth 20000
namespace Go.Proofs.Ytmgckodihnmjoaa
open Oc
set_option maxRecDepth 100000
/-- The functions, told how short lists are gone through. -/
noncomputable def fnS : List (Nat × FnI) := (80, I80.hold [19]) :: (24, I24.hold [37]) :: (65, I65.hold [45]) :: (73, I73.hold [43]) ::
  (91, I91.more [7]) :: (93, I93.more [7]) :: fns
theorem fnS_ok : FnsOk E fnS := FnsOk.cons (ok80.hold [19]) (FnsOk.cons (ok24.hold [37]) (FnsOk.cons (ok65.hold [45]) (FnsOk.cons (ok73.hold [43])
  (FnsOk.cons (ok91.more [7]) (FnsOk.cons (ok93.more [7]) fns_ok)))))
noncomputable def csG : Cs := csN E.tab eqs fnS none (csP ptD) 10
theorem csG_ok : CsOk E csG := csN_ok fnS_ok eqs_ok (csP_ok ptD_ok) 10
def c6 (a b c x y z : Int) : List D := [.int .i64 a, .int .i64 b, .int .i64 c, .int .i64 x, .int .i64 y, .int .i64 z]
theorem least2 (a b c x y z : Int) : Fn E 27 [.d (.lst 2 (c6 a b c x y z))] (l3 (min a x) (min b y) (min c z)) := by
  refine Fn.of_vc (ok27.more [7]) eqs_ok csG_ok rfl rfl rfl (by first | exact .inl (by as_aux_lemma => kernel_rfl) | exact .inr (by as_aux_lemma => kernel_rfl)) fun hr => ?_
  refine @vc_of _ (((True ∧ True) ∧ True) ∧ V.agg [V.d (D.int IntKind.i64 (match false with | true => max a x | false => min a x)), V.d (D.int IntKind.i64 (match false with | true => max b y | false => min b y)), V.d (D.int IntKind.i64 (match false with | true => max c z | false => min c z))] = l3 (min a x) (min b y) (min c z)) (by as_aux_lemma => kernel_rfl) ?_
  exact ⟨⟨⟨trivial, trivial⟩, trivial⟩, rfl⟩
theorem great2 (a b c x y z : Int) : Fn E 29 [.d (.lst 2 (c6 a b c x y z))] (l3 (max a x) (max b y) (max c z)) := by
  refine Fn.of_vc (ok29.more [7]) eqs_ok csG_ok rfl rfl rfl (by first | exact .inl (by as_aux_lemma => kernel_rfl) | exact .inr (by as_aux_lemma => kernel_rfl)) fun hr => ?_
  refine @vc_of _ (((True ∧ True) ∧ True) ∧ V.agg [V.d (D.int IntKind.i64 (match true with | true => max a x | false => min a x)), V.d (D.int IntKind.i64 (match true with | true => max b y | false => min b y)), V.d (D.int IntKind.i64 (match true with | true => max c z | false => min c z))] = l3 (max a x) (max b y) (max c z)) (by as_aux_lemma => kernel_rfl) ?_
  exact ⟨⟨⟨trivial, trivial⟩, trivial⟩, rfl⟩
def bx (a b c x y z : Int) : V := .agg [vi a, vi b, vi c, vi x, vi y, vi z]
def loL (n0 n1 n2 m a b c x y z : Int) : List Int := [m, min (mulV n0 a) (mulV n0 x), min (mulV n1 b) (mulV n1 y), min (mulV n2 c) (mulV n2 z)]
def hiL (n0 n1 n2 m a b c x y z : Int) : List Int := [m, max (mulV n0 a) (mulV n0 x), max (mulV n1 b) (mulV n1 y), max (mulV n2 c) (mulV n2 z)]
def enE (n0 n1 n2 m a b c x y z : Int) : Int :=
  bif !decide (max (mulE n0 a) (mulE n0 x) = 0) then 6 else bif !decide (max (mulE n1 b) (mulE n1 y) = 0) then 6 else bif !decide (max (mulE n2 c) (mulE n2 z) = 0) then 6 else
  bif !decide (max (addEL (loL n0 n1 n2 m a b c x y z)) (addEL (hiL n0 n1 n2 m a b c x y z)) = 0) then 6 else 0
def enL (n0 n1 n2 m a b c x y z : Int) : Int := bif decide (enE n0 n1 n2 m a b c x y z = 0) then addVL (loL n0 n1 n2 m a b c x y z) else 0
def enH (n0 n1 n2 m a b c x y z : Int) : Int := bif decide (enE n0 n1 n2 m a b c x y z = 0) then addVL (hiL n0 n1 n2 m a b c x y z) else 0
theorem ends_fn (n0 n1 n2 m a b c x y z : Int) : Fn E 106 [l3 n0 n1 n2, vi m, bx a b c x y z] (.tup [vi (enL n0 n1 n2 m a b c x y z), vi (enH n0 n1 n2 m a b c x y z), vi (enE n0 n1 n2 m a b c x y z)]) := by
  refine Fn.of_vc ok106 eqs_ok csG_ok rfl rfl rfl (by first | exact .inl (by as_aux_lemma => kernel_rfl) | exact .inr (by as_aux_lemma => kernel_rfl)) fun hr => ?_
  refine @vc_of _ (bif !decide ((match true with | true => max (mulE n0 a) (mulE n0 x) | false => min (mulE n0 a) (mulE n0 x)) = (0 : Int)) then V.tup [V.d (D.int IntKind.i64 (0 : Int)), V.d (D.int IntKind.i64 (0 : Int)), V.d (D.int IntKind.i64 (6 : Int))] = V.tup [vi (enL n0 n1 n2 m a b c x y z), vi (enH n0 n1 n2 m a b c x y z), vi (enE n0 n1 n2 m a b c x y z)] else bif !decide ((match true with | true => max (mulE n1 b) (mulE n1 y) | false => min (mulE n1 b) (mulE n1 y)) = (0 : Int)) then V.tup [V.d (D.int IntKind.i64 (0 : Int)), V.d (D.int IntKind.i64 (0 : Int)), V.d (D.int IntKind.i64 (6 : Int))] = V.tup [vi (enL n0 n1 n2 m a b c x y z), vi (enH n0 n1 n2 m a b c x y z), vi (enE n0 n1 n2 m a b c x y z)] else bif !decide ((match true with | true => max (mulE n2 c) (mulE n2 z) | false => min (mulE n2 c) (mulE n2 z)) = (0 : Int)) then V.tup [V.d (D.int IntKind.i64 (0 : Int)), V.d (D.int IntKind.i64 (0 : Int)), V.d (D.int IntKind.i64 (6 : Int))] = V.tup [vi (enL n0 n1 n2 m a b c x y z), vi (enH n0 n1 n2 m a b c x y z), vi (enE n0 n1 n2 m a b c x y z)] else bif !decide ((match true with | true => max (addEL (intsC [D.int IntKind.i64 m, D.int IntKind.i64 (match false with | true => max (mulV n0 a) (mulV n0 x) | false => min (mulV n0 a) (mulV n0 x)), D.int IntKind.i64 (match false with | true => max (mulV n1 b) (mulV n1 y) | false => min (mulV n1 b) (mulV n1 y)), D.int IntKind.i64 (match false with | true => max (mulV n2 c) (mulV n2 z) | false => min (mulV n2 c) (mulV n2 z))])) (addEL (intsC [D.int IntKind.i64 m, D.int IntKind.i64 (match true with | true => max (mulV n0 a) (mulV n0 x) | false => min (mulV n0 a) (mulV n0 x)), D.int IntKind.i64 (match true with | true => max (mulV n1 b) (mulV n1 y) | false => min (mulV n1 b) (mulV n1 y)), D.int IntKind.i64 (match true with | true => max (mulV n2 c) (mulV n2 z) | false => min (mulV n2 c) (mulV n2 z))])) | false => min (addEL (intsC [D.int IntKind.i64 m, D.int IntKind.i64 (match false with | true => max (mulV n0 a) (mulV n0 x) | false => min (mulV n0 a) (mulV n0 x)), D.int IntKind.i64 (match false with | true => max (mulV n1 b) (mulV n1 y) | false => min (mulV n1 b) (mulV n1 y)), D.int IntKind.i64 (match false with | true => max (mulV n2 c) (mulV n2 z) | false => min (mulV n2 c) (mulV n2 z))])) (addEL (intsC [D.int IntKind.i64 m, D.int IntKind.i64 (match true with | true => max (mulV n0 a) (mulV n0 x) | false => min (mulV n0 a) (mulV n0 x)), D.int IntKind.i64 (match true with | true => max (mulV n1 b) (mulV n1 y) | false => min (mulV n1 b) (mulV n1 y)), D.int IntKind.i64 (match true with | true => max (mulV n2 c) (mulV n2 z) | false => min (mulV n2 c) (mulV n2 z))]))) = (0 : Int)) then V.tup [V.d (D.int IntKind.i64 (0 : Int)), V.d (D.int IntKind.i64 (0 : Int)), V.d (D.int IntKind.i64 (6 : Int))] = V.tup [vi (enL n0 n1 n2 m a b c x y z), vi (enH n0 n1 n2 m a b c x y z), vi (enE n0 n1 n2 m a b c x y z)] else V.tup [V.d (D.int IntKind.i64 (addVL [m, min (mulV n0 a) (mulV n0 x), min (mulV n1 b) (mulV n1 y), min (mulV n2 c) (mulV n2 z)])), V.d (D.int IntKind.i64 (addVL [m, max (mulV n0 a) (mulV n0 x), max (mulV n1 b) (mulV n1 y), max (mulV n2 c) (mulV n2 z)])), V.d (D.int IntKind.i64 (0 : Int))] = V.tup [vi (enL n0 n1 n2 m a b c x y z), vi (enH n0 n1 n2 m a b c x y z), vi (enE n0 n1 n2 m a b c x y z)]) (by as_aux_lemma => kernel_rfl) ?_
  have e0 : addEL (loL n0 n1 n2 m a b c x y z) = addEL [m, min (mulV n0 a) (mulV n0 x), min (mulV n1 b) (mulV n1 y), min (mulV n2 c) (mulV n2 z)] := rfl
  unfold enL enH
  have k : ∀ e : Int, enE n0 n1 n2 m a b c x y z = e → e ≠ 0 → (bif decide (enE n0 n1 n2 m a b c x y z = 0) then addVL (loL n0 n1 n2 m a b c x y z) else 0) = 0 ∧ (bif decide (enE n0 n1 n2 m a b c x y z = 0) then addVL (hiL n0 n1 n2 m a b c x y z) else 0) = 0 := fun e h h0 => by
    rw [h]; simp [h0]
  by_cases q0 : max (mulE n0 a) (mulE n0 x) = 0
  · by_cases q1 : max (mulE n1 b) (mulE n1 y) = 0
    · by_cases q2 : max (mulE n2 c) (mulE n2 z) = 0
      · by_cases q3 : max (addEL (loL n0 n1 n2 m a b c x y z)) (addEL (hiL n0 n1 n2 m a b c x y z)) = 0
        · have hE : enE n0 n1 n2 m a b c x y z = 0 := by simp [enE, q0, q1, q2, q3]
          rw [hE]
          simp only [loL, hiL] at q3 ⊢
          simp only [q0, q1, q2, decide_true, Bool.not_true, cond_false, cond_true]
          refine way_iff.2 ⟨fun h => ?_, fun h => by first | trivial | rfl⟩
          exfalso; rw [Bool.not_eq_true', decide_eq_false_iff_not] at h; exact h q3
        · have hE : enE n0 n1 n2 m a b c x y z = 6 := by simp [enE, q0, q1, q2, q3]
          obtain ⟨k1, k2⟩ := k 6 hE (by decide)
          rw [k1, k2, hE]
          simp only [loL, hiL] at q3
          simp only [q0, q1, q2, decide_true, Bool.not_true, cond_false, cond_true]
          refine way_iff.2 ⟨fun h => by first | trivial | rfl, fun h => ?_⟩
          exfalso; rw [Bool.not_eq_false', decide_eq_true_eq] at h; exact q3 h
      · have hE : enE n0 n1 n2 m a b c x y z = 6 := by simp [enE, q0, q1, q2]
        obtain ⟨k1, k2⟩ := k 6 hE (by decide)
        rw [k1, k2, hE]
        simp only [q0, q1, q2, decide_true, decide_false, Bool.not_true, Bool.not_false, cond_false, cond_true]
    · have hE : enE n0 n1 n2 m a b c x y z = 6 := by simp [enE, q0, q1]
      obtain ⟨k1, k2⟩ := k 6 hE (by decide)
      rw [k1, k2, hE]
      simp only [q0, q1, decide_true, decide_false, Bool.not_true, Bool.not_false, cond_false, cond_true]
  · have hE : enE n0 n1 n2 m a b c x y z = 6 := by simp [enE, q0]
    obtain ⟨k1, k2⟩ := k 6 hE (by decide)
    rw [k1, k2, hE]
    simp only [q0, decide_false, Bool.not_false, cond_true]
noncomputable def leP (k : Int → Int → Int → Int → Int → Int → V) : List V → Option (List Ob × V) := fun xs => match xs with
  | [.d (.lst n [.int .i64 a, .int .i64 b, .int .i64 c, .int .i64 x, .int .i64 y, .int .i64 z])] => match Nat.beq n 2 with
    | true => some ([], k a b c x y z)
    | false => none
  | _ => none
theorem leP_ok {f : FuncId} {k : Int → Int → Int → Int → Int → Int → V} (h : ∀ a b c x y z, Fn E f [.d (.lst 2 (c6 a b c x y z))] (k a b c x y z)) : ∀ args l r, leP k args = some (l, r) → obsL l → Fn E f args r := fun args l r e hl => by
  unfold leP at e
  split at e
  · split at e
    · rename_i hb
      cases e; obtain rfl := Nat.eq_of_beq_eq_true hb; exact h ..
    · cases e
  · cases e
noncomputable def enP : List V → Option (List Ob × V) := fun xs => match xs with
  | [.agg [.d (.int .i64 n0), .d (.int .i64 n1), .d (.int .i64 n2)], .d (.int .i64 m), .agg [.d (.int .i64 a), .d (.int .i64 b), .d (.int .i64 c), .d (.int .i64 x), .d (.int .i64 y), .d (.int .i64 z)]] =>
    some ([], .tup [vi (enL n0 n1 n2 m a b c x y z), vi (enH n0 n1 n2 m a b c x y z), vi (enE n0 n1 n2 m a b c x y z)])
  | _ => none
theorem enP_ok {f : FuncId} (h : ∀ n0 n1 n2 m a b c x y z, Fn E f [l3 n0 n1 n2, vi m, bx a b c x y z] (.tup [vi (enL n0 n1 n2 m a b c x y z), vi (enH n0 n1 n2 m a b c x y z), vi (enE n0 n1 n2 m a b c x y z)])) : ∀ args l r, enP args = some (l, r) → obsL l → Fn E f args r := fun args l r e hl => by
  unfold enP at e
  split at e
  · cases e; exact h ..
  · cases e
noncomputable def ptE : List (Nat × (List V → Option (List Ob × V))) := (27, leP fun a b c x y z => l3 (min a x) (min b y) (min c z)) :: (29, leP fun a b c x y z => l3 (max a x) (max b y) (max c z)) :: (106, enP) :: (34, mvP apE apV) :: ptD
theorem ptE_ok : PtOk E ptE := PtOk.cons ok27.en (leP_ok least2) (PtOk.cons ok29.en (leP_ok great2) (PtOk.cons ok106.en (enP_ok ends_fn) (PtOk.cons ok34.en (mvP_ok _ _ app_fn) ptD_ok)))
noncomputable def csH : Cs := csN E.tab eqs fnS none (csP ptE) 10
theorem csH_ok : CsOk E csH := csN_ok fnS_ok eqs_ok (csP_ok ptE_ok) 10
end Go.Proofs.Ytmgckodihnmjoaa
