/-
  Numbers of 16 places: what the code comes to, short lists and products. Conditions: none.
-/
import Derived.Test.YtmgckodihnmjoaaAfA
set_option linter.unusedVariables false
set_option linter.unusedSimpArgs false
set_option maxRecDepth 20000
namespace Go.Proofs.Ytmgckodihnmjoaa
open Oc
set_option maxRecDepth 100000
def nthI (l : List Int) (i : Nat) : Int := l.getD i 0
def rightL (l : List Int) : Bool := rightF l.length (nthI l)
def addEL (l : List Int) : Int := addE l.length (nthI l)
def addVL (l : List Int) : Int := addV l.length (nthI l)
def iC (d : D) : Int := match d with | .int _ x => x | _ => 0
/-- Numbers out of cells. -/
noncomputable def intsC (l : List D) : List Int := List.rec [] (fun d _ ih => iC d :: ih) l
noncomputable def cellsI (l : List Int) : List D := List.rec [] (fun x _ ih => .int .i64 x :: ih) l
noncomputable def allI (l : List D) : Bool := List.rec true (fun d _ ih => match d with | .int .i64 _ => ih | _ => false) l
theorem allI_ok {l : List D} (h : allI l = true) : l = cellsI (intsC l) := by
  induction l with
  | nil => rfl
  | cons d l ih =>
    cases d with
    | int q x =>
      cases q with
      | i64 => exact congrArg (_ :: ·) (ih h)
      | _ => cases h
    | _ => cases h
theorem intsC_len (l : List D) : (intsC l).length = l.length := by
  induction l with
  | nil => rfl
  | cons d l ih => exact congrArg (· + 1) ih
theorem cells_flat (l : List Int) : cellsI l = flatN l.length fun i => [.int .i64 (nthI l i)] := by
  induction l with
  | nil => rfl
  | cons x l ih => rw [List.length_cons, flatN_succ]; exact congrArg (D.int .i64 x :: ·) ih
theorem Fn.leA {E : Env} {f : FuncId} {xs ys : List V} {r : V} (hp : pureL xs = true) (l : AL xs ys) (c : Fn E f ys r) : Fn E f xs r := ⟨c.1, hp, Call.leA l c.2.2⟩
theorem row_le {n : Nat} {cs : List D} (hn : n = cs.length) (h : cs = cellsI (intsC cs)) : AL [V.d (.lst n cs)] [rw_ (intsC cs).length (nthI (intsC cs))] := by
  subst hn
  refine .cons ?_ .nil
  have e : cs.length = (intsC cs).length := (intsC_len cs).symm
  rw [e]
  exact VLe.ofL (h.trans (cells_flat (intsC cs))) (fun i hi => rfl)
/-- A function of a row of numbers, by the row's cells. -/
noncomputable def rowP (g : Nat → (Nat → Int) → V) (k : List Int → V) : List V → Option (List Ob × V) := fun xs => match xs with
  | [.d (.rows n e f)] => some ([.p (e = 1 ∧ ∀ i, f i = [.int .i64 (iD (f i))])], g n fun i => iD (f i))
  | [.d (.lst n cs)] => match Nat.beq n cs.length && allI cs with
    | true => some ([], k (intsC cs))
    | false => none
  | _ => none
theorem rowP_ok {E : Env} {f : FuncId} {g : Nat → (Nat → Int) → V} {k : List Int → V} (h : ∀ n x, Fn E f [rw_ n x] (g n x)) (hk : ∀ l, k l = g l.length (nthI l)) : ∀ args l r, rowP g k args = some (l, r) → obsL l → Fn E f args r := fun args l r e hl => by
  unfold rowP at e
  split at e
  · rename_i n e' f'
    cases e
    obtain ⟨rfl, h'⟩ := (obsL_cons hl).1
    have := h n fun i => iD (f' i)
    rwa [rw_, show (fun i => [D.int .i64 (iD (f' i))]) = f' from (funext h').symm] at this
  · rename_i n cs
    split at e
    · rename_i hb
      cases e
      obtain ⟨h1, h2⟩ := and_split hb
      rw [hk]
      exact Fn.leA rfl (row_le (Nat.eq_of_beq_eq_true h1) (allI_ok h2)) (h _ _)
    · cases e
  · cases e
theorem obsL_one {P : Prop} (h : obsL [.p P]) : P := (obsL_cons h).1
def outE (x : Int) : Int := bif okN x then 0 else 6
def outV (x : Int) : Int := bif okN x then x else 0
theorem fin_ (x : Int) : Fn E 111 [vi x] (vb (okN x)) := by
  refine Fn.of_vc ok111 eqs_ok cs0_ok rfl rfl rfl (by first | exact .inl (by as_aux_lemma => kernel_rfl) | exact .inr (by as_aux_lemma => kernel_rfl)) fun hr => ?_
  refine @vc_of _ (V.d (D.bool (bif leZ (-2147483648 : Int) x then leZ x (2147483647 : Int) else false)) = vb (okN x)) (by as_aux_lemma => kernel_rfl) ?_
  rw [okN_z]
theorem rone (x : Int) : Fn E 101 [vi x] (vb (okN x)) := by
  refine Fn.of_vc ok101 eqs_ok cs0_ok rfl rfl rfl (by first | exact .inl (by as_aux_lemma => kernel_rfl) | exact .inr (by as_aux_lemma => kernel_rfl)) fun hr => ?_
  refine @vc_of _ (V.d (D.bool (bif leZ (-2147483648 : Int) x then leZ x (2147483647 : Int) else false)) = vb (okN x)) (by as_aux_lemma => kernel_rfl) ?_
  rw [okN_z]
theorem fout (x : Int) : Fn E 112 [vi x] (.tup [vi (outV x), vi (outE x)]) := by
  refine Fn.of_vc ok112 eqs_ok cs0_ok rfl rfl rfl (by first | exact .inl (by as_aux_lemma => kernel_rfl) | exact .inr (by as_aux_lemma => kernel_rfl)) fun hr => ?_
  refine @vc_of _ (bif !bif leZ (-2147483648 : Int) x then leZ x (2147483647 : Int) else false then V.tup [V.d (D.int IntKind.i64 (0 : Int)), V.d (D.int IntKind.i64 (6 : Int))] = V.tup [vi (outV x), vi (outE x)] else V.tup [V.d (D.int IntKind.i64 x), V.d (D.int IntKind.i64 (0 : Int))] = V.tup [vi (outV x), vi (outE x)]) (by as_aux_lemma => kernel_rfl) ?_
  simp only [okN_z, outV, outE]
  cases okN x <;> rfl
theorem rout (x : Int) : Fn E 113 [vi x] (.tup [vi (outV x), vi (outE x)]) := by
  refine Fn.of_vc ok113 eqs_ok cs0_ok rfl rfl rfl (by first | exact .inl (by as_aux_lemma => kernel_rfl) | exact .inr (by as_aux_lemma => kernel_rfl)) fun hr => ?_
  refine @vc_of _ (bif !bif leZ (-2147483648 : Int) x then leZ x (2147483647 : Int) else false then V.tup [V.d (D.int IntKind.i64 (0 : Int)), V.d (D.int IntKind.i64 (6 : Int))] = V.tup [vi (outV x), vi (outE x)] else V.tup [V.d (D.int IntKind.i64 x), V.d (D.int IntKind.i64 (0 : Int))] = V.tup [vi (outV x), vi (outE x)]) (by as_aux_lemma => kernel_rfl) ?_
  simp only [okN_z, outV, outE]
  cases okN x <;> rfl
def absZ (x : Int) : Int := bif ltZ x 0 then 0 - x else x
theorem rmag (x : Int) (hx : leZ (-9223372036854775807) x = true) : Fn E 117 [vi x] (.tup [vi (absZ x), vb (ltZ x 0)]) := by
  refine Fn.of_vc ok117 eqs_ok cs0_ok rfl rfl rfl (by first | exact .inl (by as_aux_lemma => kernel_rfl) | exact .inr (by as_aux_lemma => kernel_rfl)) fun hr => ?_
  refine @vc_of _ (bif ltZ x (0 : Int) then bif inRb IntKind.i64 ((0 : Int) - x) then V.tup [V.d (D.int IntKind.i64 ((0 : Int) - x)), V.d (D.bool true)] = V.tup [vi (absZ x), vb (ltZ x (0 : Int))] else False else V.tup [V.d (D.int IntKind.i64 x), V.d (D.bool false)] = V.tup [vi (absZ x), vb (ltZ x (0 : Int))]) (by as_aux_lemma => kernel_rfl) ?_
  simp only [leZ_eq, decide_eq_true_eq] at hx
  unfold absZ
  cases h : ltZ x 0
  · rfl
  · simp only [ltZ_eq, decide_eq_true_eq] at h
    refine need_iff.2 ⟨by simp only [inRb, loK, hiK, leZ_eq, Bool.and_eq_true, decide_eq_true_eq]; omega, rfl⟩
noncomputable def magP : List V → Option (List Ob × V) := fun xs => match xs with
  | [.d (.int .i64 x)] => some ([.b (leZ (-9223372036854775807) x)], .tup [vi (absZ x), vb (ltZ x 0)])
  | _ => none
theorem magP_ok : ∀ args l r, magP args = some (l, r) → obsL l → Fn E 117 args r := fun args l r e hl => by
  unfold magP at e
  split at e
  · cases e; exact rmag _ (obsL_b hl).1
  · cases e
theorem absZ_b {x : Int} (h : okN x = true) : 0 ≤ absZ x ∧ absZ x ≤ 2147483648 := by
  have := okN_iff.1 h
  unfold absZ
  cases hx : ltZ x 0 <;> simp only [ltZ_eq, decide_eq_true_eq, decide_eq_false_iff_not] at hx <;> simp only [cond_true, cond_false] <;> omega
/-- A function of one number. -/
noncomputable def oneP (k : Int → V) : List V → Option (List Ob × V) := fun xs => match xs with
  | [.d (.int .i64 x)] => some ([], k x)
  | _ => none
theorem oneP_ok {E : Env} {f : FuncId} {k : Int → V} (h : ∀ x, Fn E f [vi x] (k x)) : ∀ args l r, oneP k args = some (l, r) → obsL l → Fn E f args r := fun args l r e hl => by
  unfold oneP at e
  split at e
  · cases e; exact h _
  · cases e
noncomputable def twoP (k : Int → Int → V) : List V → Option (List Ob × V) := fun xs => match xs with
  | [.d (.int .i64 x), .d (.int .i64 y)] => some ([], k x y)
  | _ => none
theorem twoP_ok {E : Env} {f : FuncId} {k : Int → Int → V} (h : ∀ x y, Fn E f [vi x, vi y] (k x y)) : ∀ args l r, twoP k args = some (l, r) → obsL l → Fn E f args r := fun args l r e hl => by
  unfold twoP at e
  split at e
  · cases e; exact h _ _
  · cases e
noncomputable def ptB : List (Nat × (List V → Option (List Ob × V))) := [
  (85, rowP (fun n x => vb (rightF n x)) (fun l => vb (rightL l))),
  (46, rowP (fun n x => vb (rightF n x)) (fun l => vb (rightL l))),
  (79, rowP (fun n x => .tup [vi (addV n x), vi (addE n x)]) (fun l => .tup [vi (addVL l), vi (addEL l)])),
  (83, rowP (fun n x => .tup [vi (addV n x), vi (addE n x)]) (fun l => .tup [vi (addVL l), vi (addEL l)])),
  (111, oneP fun x => vb (okN x)), (101, oneP fun x => vb (okN x)),
  (112, oneP fun x => .tup [vi (outV x), vi (outE x)]), (113, oneP fun x => .tup [vi (outV x), vi (outE x)]),
  (117, magP)]
theorem ptB_ok : PtOk E ptB :=
  PtOk.cons ok85.en (rowP_ok fr_r fun _ => rfl) (PtOk.cons ok46.en (rowP_ok rr_r fun _ => rfl)
    (PtOk.cons ok79.en (rowP_ok fadd_r fun _ => rfl) (PtOk.cons ok83.en (rowP_ok radd_r fun _ => rfl) (PtOk.cons ok111.en (oneP_ok fin_) (PtOk.cons ok101.en (oneP_ok rone)
    (PtOk.cons ok112.en (oneP_ok fout) (PtOk.cons ok113.en (oneP_ok rout) (PtOk.cons ok117.en magP_ok PtOk.nil))))))))
noncomputable def csB : Cs := csN E.tab eqs fns none (csP ptB) 10
theorem csB_ok : CsOk E csB := csN_ok fns_ok eqs_ok (csP_ok ptB_ok) 10
theorem two_ok (a b : Int) : rightL [a, b] = (okN a && okN b) := by show (true && okN a && okN b) = _; rfl
theorem one_ok (a : Int) : rightL [a] = okN a := by show (true && okN a) = _; rfl
def mulP (a b : Int) : Int := a * b / 65536
def mulE (a b : Int) : Int := bif okN a && okN b then (bif okN (mulP a b) then 0 else 6) else 1
def mulV (a b : Int) : Int := bif okN a && okN b then (bif okN (mulP a b) then mulP a b else 0) else 0
theorem mul_b {a b : Int} (ha : okN a = true) (hb : okN b = true) : -4611686018427387904 ≤ a * b ∧ a * b ≤ 4611686018427387904 := by
  obtain ⟨a1, a2⟩ := okN_iff.1 ha
  obtain ⟨b1, b2⟩ := okN_iff.1 hb
  have h : (a * b).natAbs ≤ 2147483648 * 2147483648 := by
    rw [Int.natAbs_mul]; exact Nat.mul_le_mul (by omega) (by omega)
  omega
theorem fmul (a b : Int) : Fn E 82 [vi a, vi b] (.tup [vi (mulV a b), vi (mulE a b)]) := by
  refine Fn.of_vc ok82 eqs_ok csB_ok rfl rfl rfl (by first | exact .inl (by as_aux_lemma => kernel_rfl) | exact .inr (by as_aux_lemma => kernel_rfl)) fun hr => ?_
  refine @vc_of _ (bif !rightL [a, b] then V.tup [V.d (D.int IntKind.i64 (0 : Int)), V.d (D.int IntKind.i64 (1 : Int))] = V.tup [vi (mulV a b), vi (mulE a b)] else bif inRb IntKind.i64 (a * b) then V.tup [V.d (D.int IntKind.i64 (outV (a * b / (2 : Int) ^ Int.toNat (16 : Int)))), V.d (D.int IntKind.i64 (outE (a * b / (2 : Int) ^ Int.toNat (16 : Int))))] = V.tup [vi (mulV a b), vi (mulE a b)] else False) (by as_aux_lemma => kernel_rfl) ?_
  rw [two_ok, mulV, mulE]
  cases hc : okN a && okN b
  · rfl
  obtain ⟨h1, h2⟩ := and_split hc
  have := mul_b h1 h2
  refine need_iff.2 ⟨by simp only [inRb, loK, hiK, leZ_eq, Bool.and_eq_true, decide_eq_true_eq]; omega, ?_⟩
  have e : a * b / 2 ^ Int.toNat 16 = mulP a b := rfl
  rw [e, outV, outE]
  cases okN (mulP a b) <;> rfl
/-- A product by halves. -/
theorem halves {A B : Int} (hA : 0 ≤ A) (hB : 0 ≤ B) : A * B = ((A / 65536) * B + (A % 65536 * B) / 65536) * 65536 + A % 65536 * B % 65536 := by
  have h1 : A % 65536 * B = (A % 65536 * B) / 65536 * 65536 + A % 65536 * B % 65536 := by omega
  have h2 : A * B = (A / 65536) * B * 65536 + A % 65536 * B := by
    have : A = A / 65536 * 65536 + A % 65536 := by omega
    conv => lhs; rw [this]
    rw [Int.add_mul, Int.mul_right_comm]
  rw [Int.add_mul]
  omega
theorem rmul (a b : Int) : Fn E 88 [vi a, vi b] (.tup [vi (mulV a b), vi (mulE a b)]) := by
  refine Fn.of_vc ok88 eqs_ok csB_ok rfl rfl rfl (by first | exact .inl (by as_aux_lemma => kernel_rfl) | exact .inr (by as_aux_lemma => kernel_rfl)) fun hr => ?_
  refine @vc_of _ (let z0 := ltZ a (0 : Int); let z1 := ltZ b (0 : Int); let z2 := Int.tmod (absZ a) (65536 : Int) * absZ b; let z3 := Int.tdiv (absZ a) (65536 : Int) * absZ b; let z4 := Int.tmod z2 (65536 : Int); let z5 := !decide (z0 = z1); let z6 := z3 + Int.tdiv z2 (65536 : Int); let z7 := (0 : Int) - z6; let z8 := !decide (z4 = (0 : Int)); let z9 := z7 - (1 : Int); let z10 := bif z5 then bif z8 then z9 else z7 else z6; bif !rightL [a, b] then V.tup [V.d (D.int IntKind.i64 (0 : Int)), V.d (D.int IntKind.i64 (1 : Int))] = V.tup [vi (mulV a b), vi (mulE a b)] else bif leZ (-9223372036854775807 : Int) a then bif leZ (-9223372036854775807 : Int) b then bif inRb IntKind.i64 z2 then bif inRb IntKind.i64 z3 then bif inRb IntKind.i64 z6 then (bif z5 then bif inRb IntKind.i64 z7 then (bif z8 then bif inRb IntKind.i64 z9 then True else False else True) ∧ True else False else True) ∧ V.tup [V.d (D.int IntKind.i64 (outV z10)), V.d (D.int IntKind.i64 (outE z10))] = V.tup [vi (mulV a b), vi (mulE a b)] else False else False else False else False else False) (by as_aux_lemma => kernel_rfl) ?_
  intro z0 z1 z4 z5 z6 z7 z8 z9 z10 z11 z12
  rw [two_ok]
  cases hc : okN a && okN b
  · show V.tup _ = V.tup _; rw [mulV, mulE, hc]; rfl
  obtain ⟨h1, h2⟩ := and_split hc
  have hab := mul_b h1 h2
  have a1 := okN_iff.1 h1
  have b1 := okN_iff.1 h2
  obtain ⟨hA, hA'⟩ := absZ_b h1
  obtain ⟨hB, hB'⟩ := absZ_b h2
  have e4 : z4 = absZ a % 65536 * absZ b := by show Int.tmod _ _ * _ = _; rw [Int.tmod_eq_emod_of_nonneg hA]
  have e5 : z5 = absZ a / 65536 * absZ b := by show Int.tdiv _ _ * _ = _; rw [Int.tdiv_eq_ediv_of_nonneg hA]
  have p4 : 0 ≤ z4 := by rw [e4]; exact Int.mul_nonneg (by omega) hB
  have p5 : 0 ≤ z5 := by rw [e5]; exact Int.mul_nonneg (by omega) hB
  have e6 : z6 = z4 % 65536 := Int.tmod_eq_emod_of_nonneg p4
  have e8 : z8 = z5 + z4 / 65536 := by show _ + Int.tdiv _ _ = _; rw [Int.tdiv_eq_ediv_of_nonneg p4]
  have hv := halves hA hB
  rw [← e4, ← e5] at hv
  have hs : (z7 = false ∧ a * b = absZ a * absZ b) ∨ (z7 = true ∧ a * b = -(absZ a * absZ b)) := by
    have e7 : z7 = !decide (ltZ a 0 = ltZ b 0) := rfl
    rw [e7]
    unfold absZ
    rw [ltZ_eq, ltZ_eq]
    by_cases ha : a < 0 <;> by_cases hb : b < 0 <;> simp [ha, hb, Int.mul_neg, Int.neg_mul, Int.zero_sub]
  have hz : z12 = mulP a b := by
    show (bif z7 then bif !decide (z6 = 0) then 0 - z8 - 1 else 0 - z8 else z8) = a * b / 65536
    by_cases h6 : z6 = 0
    · rcases hs with ⟨h7, h8⟩ | ⟨h7, h8⟩ <;> rw [h7, h8] <;> simp only [h6, cond_true, cond_false, decide_true, Bool.not_true] <;> omega
    · rcases hs with ⟨h7, h8⟩ | ⟨h7, h8⟩ <;> rw [h7, h8] <;> simp only [h6, cond_true, cond_false, decide_false, Bool.not_false] <;> omega
  have hAB : absZ a * absZ b ≤ 4611686018427387904 := by rcases hs with ⟨_, h⟩ | ⟨_, h⟩ <;> omega
  have e9 : z9 = 0 - z8 := rfl
  have e11 : z11 = z9 - 1 := rfl
  have e3 : V.tup [vi (mulV a b), vi (mulE a b)] = V.tup [vi (outV (mulP a b)), vi (outE (mulP a b))] := by rw [mulV, mulE, hc]; rfl
  rw [e3, hz]
  clear_value z4 z5 z6 z7 z8 z9 z10 z11 z12
  simp only [Bool.not_true, cond_false]
  repeat' (refine need_iff.2 ⟨by simp only [inRb, loK, hiK, leZ_eq, Bool.and_eq_true, decide_eq_true_eq]; omega, ?_⟩)
  refine ⟨?_, trivial⟩
  refine way_iff.2 ⟨fun _ => ?_, fun _ => trivial⟩
  refine need_iff.2 ⟨by simp only [inRb, loK, hiK, leZ_eq, Bool.and_eq_true, decide_eq_true_eq]; omega, ?_, trivial⟩
  refine way_iff.2 ⟨fun _ => ?_, fun _ => trivial⟩
  refine need_iff.2 ⟨by simp only [inRb, loK, hiK, leZ_eq, Bool.and_eq_true, decide_eq_true_eq]; omega, trivial⟩
def negE (a : Int) : Int := bif okN a then outE (0 - a) else 1
def negV (a : Int) : Int := bif okN a then outV (0 - a) else 0
theorem fneg (a : Int) : Fn E 108 [vi a] (.tup [vi (negV a), vi (negE a)]) := by
  refine Fn.of_vc ok108 eqs_ok csB_ok rfl rfl rfl (by first | exact .inl (by as_aux_lemma => kernel_rfl) | exact .inr (by as_aux_lemma => kernel_rfl)) fun hr => ?_
  refine @vc_of _ (bif !rightL [a] then V.tup [V.d (D.int IntKind.i64 (0 : Int)), V.d (D.int IntKind.i64 (1 : Int))] = V.tup [vi (negV a), vi (negE a)] else bif inRb IntKind.i64 ((0 : Int) - a) then V.tup [V.d (D.int IntKind.i64 (outV ((0 : Int) - a))), V.d (D.int IntKind.i64 (outE ((0 : Int) - a)))] = V.tup [vi (negV a), vi (negE a)] else False) (by as_aux_lemma => kernel_rfl) ?_
  rw [one_ok, negV, negE]
  cases hc : okN a
  · rfl
  have := okN_iff.1 hc
  refine need_iff.2 ⟨by simp only [inRb, loK, hiK, leZ_eq, Bool.and_eq_true, decide_eq_true_eq]; omega, ?_⟩
  rfl
end Go.Proofs.Ytmgckodihnmjoaa
