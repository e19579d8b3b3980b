/-
  The logic's rules for rows of a kind: lists as they are read and grown. Conditions: none.
-/
import Derived.Test.YtmgckodihnmjoaaSy12
set_option linter.unusedVariables false
set_option linter.unusedSimpArgs false
set_option maxRecDepth 20000
namespace Go.Proofs.Ytmgckodihnmjoaa
open Go.RowKit

theorem map_at {α : Type} [Inhabited α] (f : α → D) (l : List α) (k : Nat) (hk : k < l.length) : ((l.map f).drop (k * 1)).take 1 = [f l[k]!] := by
  rw [Nat.mul_one, ← List.map_drop, List.drop_eq_getElem_cons hk, getElem!_pos l k hk]; rfl
theorem flat_drop {α : Type} (enc : α → List D) (e : Nat) (he : ∀ a, (enc a).length = e) : ∀ (l : List α) (k : Nat), k ≤ l.length → (l.flatMap enc).drop (k * e) = (l.drop k).flatMap enc
  | l, 0, _ => by simp
  | [], k + 1, h => by simp at h
  | x :: l, k + 1, h => by
    simp only [List.length_cons, Nat.add_le_add_iff_right] at h
    rw [List.flatMap_cons, Nat.add_mul, Nat.one_mul, Nat.add_comm (k * e) e, List.drop_append, he x]
    simp only [List.drop_succ_cons]
    rw [List.drop_eq_nil_of_le (by rw [he x]; omega), List.nil_append, show e + k * e - e = k * e by omega]
    exact flat_drop enc e he l k h
theorem flat_at {α : Type} [Inhabited α] (enc : α → List D) (e : Nat) (he : ∀ a, (enc a).length = e) (l : List α) (k : Nat) (hk : k < l.length) : ((l.flatMap enc).drop (k * e)).take e = enc l[k]! := by
  rw [flat_drop enc e he l k (by omega), List.drop_eq_getElem_cons hk, List.flatMap_cons, getElem!_pos l k hk, List.take_append, he, Nat.sub_self, List.take_zero, List.append_nil, List.take_of_length_le (by rw [he]; omega)]
theorem flat_len {α : Type} (enc : α → List D) (e : Nat) (he : ∀ a, (enc a).length = e) (l : List α) : (l.flatMap enc).length = l.length * e := by
  induction l with
  | nil => simp
  | cons x l ih => rw [List.flatMap_cons, List.length_append, ih, he, List.length_cons, Nat.add_mul, Nat.one_mul, Nat.add_comm]

section
variable {E : Env} {k B : Nat} {s s' : Slots} {h h' : Hp} {Q Q' : Post} {o : Oper} {v : V} {d : Nat} {t : TypeId} {td ed : TypeDesc} {tz tb ez eb : Nat} {tr er : Option Value} {x y : Operand} {n j : Nat} {ρ : Bool}
/-- An element of a row of single cells. -/
theorem Yl.indexM {α : Type} [Inhabited α] {f : α → D} {l : List α} {e : TypeId} (ho : o.op = .indexAddr t x y) (hx : evO s x = some (.d (.lst n (l.map f)))) (hy : evO s y = some (vi ((j : Nat) : Int))) (ht : lk E.tab t = some ⟨td, tz, tb, tr⟩) (hd : td = .slice e) (hte : lk E.tab e = some ⟨ed, 1, eb, er⟩) (hn : n = l.length) (hj : j < l.length) :
    Yl ρ E k B s h o (.d (.lptr [f l[j]!])) :=
  Yl.indexL ho ht hd hte hx hy (by omega) (by omega) (by rw [Int.toNat_natCast]; exact map_at f l j hj) (by simp)
/-- An element of a row of structs. -/
theorem Yl.indexF {α : Type} [Inhabited α] {enc : α → List D} {l : List α} {e : TypeId} (ho : o.op = .indexAddr t x y) (hx : evO s x = some (.d (.lst n (l.flatMap enc)))) (hy : evO s y = some (vi ((j : Nat) : Int))) (ht : lk E.tab t = some ⟨td, tz, tb, tr⟩) (hd : td = .slice e) (hte : lk E.tab e = some ⟨ed, ez, eb, er⟩) (he : ∀ a, (enc a).length = ez) (hp : Nat.blt 0 ez = true) (hn : n = l.length) (hj : j < l.length) :
    Yl ρ E k B s h o (.d (.lptr (enc l[j]!))) :=
  Yl.indexL ho ht hd hte hx hy (by omega) (by omega) (by rw [Int.toNat_natCast]; exact flat_at enc ez he l j hj) (by rw [he]; exact Nat.le_of_ble_eq_true hp)
end
theorem Le.val {s s' : Slots} {i : Nat} {u v : V} (h : lk s i = some u) (e : u = v) (k : Le s s') : Le s ((i, v) :: s') := by subst e; exact Le.cons h k
abbrev li (l : List Int) : V := .d (.lst l.length (l.map (.int .i64)))
end Go.Proofs.Ytmgckodihnmjoaa
