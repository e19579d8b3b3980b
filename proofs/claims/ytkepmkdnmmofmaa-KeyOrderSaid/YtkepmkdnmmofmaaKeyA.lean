/-
  Keys of draws: what key.Level, Right, Pack, Less and Unpack come to. Conditions: none.
-/
import Derived.Test.YtkepmkdnmmofmaaTab
set_option linter.unusedVariables false
set_option linter.unusedSimpArgs false
set_option maxRecDepth 20000
namespace Go.Proofs.Ytkepmkdnmmofmaa
open Oc
set_option maxRecDepth 100000
def lvlE (x : Int) : Int := min (max (x / 256) (-8388608)) 8388607 + 8388608
theorem lvlE_r (x : Int) : 0 ≤ lvlE x ∧ lvlE x < 16777216 := by unfold lvlE; omega
structure Dr where
  p : Int
  v : Int
  c : Bool
  pi : Int
  ma : Int
  me : Int
  de : Int
def Dr.V (d : Dr) : V := .agg [vi d.p, vi d.v, vb d.c, vi d.pi, vi d.ma, vi d.me, vi d.de]
noncomputable def csA : Cs := csN E.tab eqs fns none (csP []) 10
theorem csA_ok : CsOk E csA := csN_ok fns_ok eqs_ok (csP_ok PtOk.nil) 10
theorem lvl_fn (x : Int) : Fn E 56 [vi x] (vi (lvlE x)) := by
  refine Fn.of_vc ok56 eqs_ok csA_ok rfl rfl rfl (by kernel_rfl) fun hr => ?_
  refine @vc_of _ (bif inRb IntKind.i64 ((match false with | true => max (match true with | true => max (x / (2 : Int) ^ Int.toNat (8 : Int)) (-8388608 : Int) | false => min (x / (2 : Int) ^ Int.toNat (8 : Int)) (-8388608 : Int)) (8388607 : Int) | false => min (match true with | true => max (x / (2 : Int) ^ Int.toNat (8 : Int)) (-8388608 : Int) | false => min (x / (2 : Int) ^ Int.toNat (8 : Int)) (-8388608 : Int)) (8388607 : Int)) + (8388608 : Int)) then V.d (D.int IntKind.i64 ((match false with | true => max (match true with | true => max (x / (2 : Int) ^ Int.toNat (8 : Int)) (-8388608 : Int) | false => min (x / (2 : Int) ^ Int.toNat (8 : Int)) (-8388608 : Int)) (8388607 : Int) | false => min (match true with | true => max (x / (2 : Int) ^ Int.toNat (8 : Int)) (-8388608 : Int) | false => min (x / (2 : Int) ^ Int.toNat (8 : Int)) (-8388608 : Int)) (8388607 : Int)) + (8388608 : Int))) = vi (lvlE x) else False) (by kernel_rfl) ?_
  refine way_iff.2 ⟨fun hc => ?_, fun hc => ?_⟩
  · rfl
  · exfalso
    simp only [inRb, loK, hiK, leZ_eq, Bool.and_eq_false_iff, decide_eq_false_iff_not] at hc
    have e : (2 : Int) ^ Int.toNat 8 = 256 := by decide
    rw [e] at hc
    omega
def rightE (d : Dr) : Bool := decide (0 ≤ d.p ∧ d.p < 16 ∧ 0 ≤ d.v ∧ d.v < 4 ∧ 0 ≤ d.pi ∧ d.pi < 64 ∧ 0 ≤ d.ma ∧ d.ma < 256 ∧ 0 ≤ d.me ∧ d.me < 256)
theorem rt_fn (d : Dr) : Fn E 72 [d.V] (vb (rightE d)) := by
  obtain ⟨p, v, c, pi, ma, me, de⟩ := d
  show Fn E 72 [.agg [vi p, vi v, vb c, vi pi, vi ma, vi me, vi de]] (vb (rightE ⟨p, v, c, pi, ma, me, de⟩))
  refine Fn.of_vc ok72 eqs_ok csA_ok rfl rfl rfl (by kernel_rfl) fun hr => ?_
  refine @vc_of _ ((bif ltZ p (0 : Int) then True else True) ∧ (bif bif ltZ p (0 : Int) then true else bif false then true else leZ ((1 : Int) * (2 : Int) ^ Int.toNat (4 : Int)) p then True else (bif ltZ v (0 : Int) then True else True) ∧ (bif bif ltZ v (0 : Int) then true else bif false then true else leZ ((1 : Int) * (2 : Int) ^ Int.toNat (2 : Int)) v then True else (bif ltZ pi (0 : Int) then True else True) ∧ (bif bif ltZ pi (0 : Int) then true else bif false then true else leZ ((1 : Int) * (2 : Int) ^ Int.toNat (6 : Int)) pi then True else (bif ltZ ma (0 : Int) then True else True) ∧ (bif bif ltZ ma (0 : Int) then true else bif false then true else leZ ((1 : Int) * (2 : Int) ^ Int.toNat (8 : Int)) ma then True else (bif ltZ me (0 : Int) then True else True) ∧ (bif bif ltZ me (0 : Int) then true else bif false then true else leZ ((1 : Int) * (2 : Int) ^ Int.toNat (8 : Int)) me then True else True) ∧ True) ∧ True) ∧ True) ∧ True) ∧ V.d (D.bool (bif bif ltZ p (0 : Int) then true else bif false then true else leZ ((1 : Int) * (2 : Int) ^ Int.toNat (4 : Int)) p then false else bif bif ltZ v (0 : Int) then true else bif false then true else leZ ((1 : Int) * (2 : Int) ^ Int.toNat (2 : Int)) v then false else bif bif ltZ pi (0 : Int) then true else bif false then true else leZ ((1 : Int) * (2 : Int) ^ Int.toNat (6 : Int)) pi then false else bif bif ltZ ma (0 : Int) then true else bif false then true else leZ ((1 : Int) * (2 : Int) ^ Int.toNat (8 : Int)) ma then false else bif bif ltZ me (0 : Int) then true else bif false then true else leZ ((1 : Int) * (2 : Int) ^ Int.toNat (8 : Int)) me then false else true)) = vb (rightE { p := p, v := v, c := c, pi := pi, ma := ma, me := me, de := de })) (by kernel_rfl) ?_
  have tt : ∀ b : Bool, (bif b then True else True) := fun b => match b with | true => trivial | false => trivial
  have ta : ∀ (b : Bool) {P : Prop}, P → (bif b then True else P) := fun b {P} h => match b with | true => trivial | false => h
  have cf : ∀ a x : Bool, ((bif a then false else x) = true) ↔ (a = false ∧ x = true) := fun a x => by cases a <;> simp
  have co : ∀ a x : Bool, ((bif a then true else bif false then true else x) = false) ↔ (a = false ∧ x = false) := fun a x => by cases a <;> simp
  have e : ∀ a b : Bool, a = b → V.d (D.bool a) = vb b := fun a b h => congrArg vb h
  repeat' (first | exact trivial | exact tt _ | refine ta _ ?_ | refine And.intro ?_ ?_)
  apply e
  rw [Bool.eq_iff_iff]
  simp only [cf, co, rightE, ltZ_eq, leZ_eq, decide_eq_true_eq, decide_eq_false_iff_not, Int.reduceToNat, Int.reducePow, Int.one_mul, and_true]
  omega
end Go.Proofs.Ytkepmkdnmmofmaa
