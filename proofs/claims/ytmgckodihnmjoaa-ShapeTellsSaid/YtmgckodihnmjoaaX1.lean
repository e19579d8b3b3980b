/-
  The logic's rules for rows that are told element by element. Conditions: none.
-/
import Derived.Test.YtmgckodihnmjoaaSy21
set_option linter.unusedVariables false
set_option linter.unusedSimpArgs false
set_option maxRecDepth 20000
namespace Go.Proofs.Ytmgckodihnmjoaa
open Go.RowKit

section
variable {α : Type}
theorem flatN_succ (n : Nat) (f : Nat → List α) : flatN (n + 1) f = f 0 ++ flatN n (fun i => f (i + 1)) := by
  unfold flatN
  rw [List.range_succ_eq_map, List.flatMap_cons, List.flatMap_map]
theorem flatN_last (n : Nat) (f : Nat → List α) : flatN (n + 1) f = flatN n f ++ f n := by
  unfold flatN
  rw [List.range_succ, List.flatMap_append]; simp
theorem flatN_len {n e : Nat} {f : Nat → List α} (h : ∀ i, i < n → (f i).length = e) : (flatN n f).length = n * e := by
  induction n generalizing f with
  | zero => simp [flatN]
  | succ n ih => rw [flatN_succ, List.length_append, h 0 (by omega), ih (fun i hi => h (i + 1) (by omega)), Nat.add_mul, Nat.one_mul, Nat.add_comm]
theorem flatN_drop {n e : Nat} {f : Nat → List α} (h : ∀ i, i < n → (f i).length = e) {i : Nat} (hi : i ≤ n) : (flatN n f).drop (i * e) = flatN (n - i) (fun j => f (i + j)) := by
  induction i generalizing n f with
  | zero => simp
  | succ i ih =>
    obtain ⟨n, rfl⟩ : ∃ k, n = k + 1 := ⟨n - 1, by omega⟩
    rw [flatN_succ, Nat.add_mul, Nat.one_mul, Nat.add_comm (i * e) e, ← List.drop_drop, List.drop_append, h 0 (by omega), Nat.sub_self, List.drop_of_length_le (l := f 0) (by rw [h 0 (by omega)]; omega), List.nil_append, List.drop_zero, ih (fun j hj => h (j + 1) (by omega)) (by omega)]
    rw [Nat.add_sub_add_right]
    congr 1; funext j; congr 1; omega
theorem flatN_take {n e : Nat} {f : Nat → List α} (h : ∀ i, i < n → (f i).length = e) {i : Nat} (hi : i ≤ n) : (flatN n f).take (i * e) = flatN i f := by
  induction i generalizing n f with
  | zero => simp [flatN]
  | succ i ih =>
    obtain ⟨n, rfl⟩ : ∃ k, n = k + 1 := ⟨n - 1, by omega⟩
    rw [flatN_succ, flatN_succ, Nat.add_mul, Nat.one_mul, Nat.add_comm (i * e) e, List.take_append, h 0 (by omega), Nat.add_sub_cancel_left, List.take_of_length_le (by rw [h 0 (by omega)]; omega), ih (fun j hj => h (j + 1) (by omega)) (by omega)]
theorem flatN_at {n e : Nat} {f : Nat → List α} (h : ∀ i, i < n → (f i).length = e) {i : Nat} (hi : i < n) : ((flatN n f).drop (i * e)).take e = f i := by
  rw [flatN_drop h (by omega)]
  obtain ⟨k, hk⟩ : ∃ k, n - i = k + 1 := ⟨n - i - 1, by omega⟩
  rw [hk, flatN_succ, Nat.add_zero, List.take_append, h i hi, Nat.sub_self, List.take_zero, List.append_nil, List.take_of_length_le (by rw [h i hi]; omega)]
theorem flatN_slice {n e : Nat} {f : Nat → List α} (h : ∀ i, i < n → (f i).length = e) {lo hh : Nat} (h1 : lo ≤ hh) (h2 : hh ≤ n) : ((flatN n f).drop (lo * e)).take ((hh - lo) * e) = flatN (hh - lo) (fun j => f (lo + j)) := by
  rw [flatN_drop h (by omega), flatN_take (fun i hi => h (lo + i) (by omega)) (by omega)]
theorem flatN_app {n m : Nat} {f g : Nat → List α} : flatN (n + m) (fun i => cond (Nat.blt i n) (f i) (g (i - n))) = flatN n f ++ flatN m g := by
  induction m with
  | zero =>
    rw [show flatN 0 g = [] from rfl, List.append_nil, Nat.add_zero]
    exact flatN_ext fun i hi => by
      have : Nat.blt i n = true := Nat.ble_eq_true_of_le hi
      rw [this]; rfl
  | succ m ih =>
    rw [← Nat.add_assoc, flatN_last, ih, flatN_last, List.append_assoc]
    have : Nat.blt (n + m) n = false := by
      cases hb : Nat.blt (n + m) n
      · rfl
      · have := Nat.le_of_ble_eq_true hb; omega
    rw [this]
    simp only [cond_false, Nat.add_sub_cancel_left]
theorem flatN_get {n e : Nat} {f : Nat → List α} (h : ∀ i, i < n → (f i).length = e) {i r : Nat} (hi : i < n) (hr : r < e) : (flatN n f)[i * e + r]? = (f i)[r]? := by
  have h1 := flatN_at h hi
  rw [← h1, List.getElem?_take, if_pos hr, List.getElem?_drop]
end

section
variable {E : Env} {k B : Nat} {s s' : Slots} {h h' : Hp} {Q Q' : Post} {U : Nat → Prop} {m : Nat → Option Nat} {a : Act} {w w' : World} {o : Oper} {v : V} {d n : Nat} {t u e : TypeId} {td ed : TypeDesc} {tz tb ez eb : Nat} {tr er : Option Value} {x y : Operand} {ρ : Bool} {ops : Array Oper} {rest : List Oper}
/-- What an operation yields hangs on what is known of its operands alone. -/
theorem Yl.le (y : Yl ρ E k B s' h o v) (hl : Le s s') : Yl ρ E k B s h o v := fun U m a w r => y U m a w (r.le hl)
theorem Yl.weak {v' : V} (y : Yl ρ E k B s h o v) (l : VLe v v') : Yl ρ E k B s h o v' := fun U m a w r => by
  obtain ⟨x, h1, h2⟩ := y U m a w r
  exact ⟨x, h1.le l, h2⟩
theorem Yl.indexR {f : Nat → List D} {q : IntKind} {i : Int} (ho : o.op = .indexAddr t x y) (ht : lk E.tab t = some ⟨td, tz, tb, tr⟩) (hd : td = .slice e) (hte : lk E.tab e = some ⟨ed, ez, eb, er⟩) (hx : evO s x = some (.d (.rows n ez f))) (hy : evO s y = some (.d (.int q i))) (h0 : 0 ≤ i) (h1 : i < n) (hz : 0 < ez) :
    Yl ρ E k B s h o (.d (.lptr (f i.toNat))) := fun U m a w r => by
  have h2 := r.evD hx
  generalize hv : a.eval x = v at h2
  cases h2 with | rows hlen h2 =>
  cases h2 with | @lst _ _ A cap g hk hc ha hv2 =>
  have hi : i.toNat < n := by omega
  have hl := flatN_at hlen hi
  have hcl := flatN_len hlen
  have h3 : i.toNat * ez < (flatN n f).length := by
    rw [hcl]; exact Nat.mul_lt_mul_of_pos_right hi hz
  obtain ⟨ad, rfl, hu, _⟩ := ha _ h3
  have add2 : ∀ o j, (ad.add o).add j = ad.add (o + j) := fun o j => by
    unfold Addr.add; split <;> split <;> split <;> simp_all [Nat.add_assoc]
  have hin : ∀ j c, (f i.toNat)[j]? = some c → (flatN n f)[i.toNat * ez + j]? = some c := fun j c hc => take_get hl hc
  refine ⟨.pointer (some (ad.add (i.toNat * ez))), .d (.lptr (fun j => g (i.toNat * ez + j)) (by rw [add_block]; exact hu) (fun j hj => ?_) (fun j c hc => hv2 _ c (hin j c hc))), fun w' _ => ?_⟩
  · obtain ⟨ad', e1, _, e3⟩ := ha (i.toNat * ez + j) ((List.getElem?_eq_some_iff.1 (hin j _ (List.getElem?_eq_getElem hj))).1)
    injection e1 with e1; subst e1
    rw [add2]; exact e3
  · have hu := und ht w'
    rw [hd] at hu
    simp [execOp, ho, Instr.indexAt, hv, hu, r.evInt hy, asIntOf, h0, h1, szo hte w']
theorem Yl.lenRows {f : Nat → List D} {ats : Array TypeId} {el : TypeId} (ho : o.op = .call { callee := .builtin .len, args := #[x], argTypes := ats }) (ha : ats[0]? = some t) (ht : lk E.tab t = some ⟨td, tz, tb, tr⟩) (hd : td = .slice el) (hx : evO s x = some (.d (.rows n e f))) : Yl ρ E k B s h o (vi n) := fun U m a w r => by
  have h2 := r.evD hx
  generalize hv : a.eval x = v at h2
  cases h2 with | rows hlen h2 =>
  cases h2 with | lst f hk hc g1 g2 =>
  refine ⟨_, .d (.int .i64 n (lenR (Nat.le_trans hk hc))), fun w' _ => ?_⟩
  have hu := und ht w'
  rw [hd] at hu
  simp [execOp, ho, resolve, invoke, builtin, Builtin.len_, ha, hu, hv, goInt]
theorem Yl.sliceR {f : Nat → List D} {lo hi : Option Operand} {l hh : Int} (ho : o.op = .slice t x lo hi none) (hx : evO s x = some (.d (.rows n ez f))) (ht : lk E.tab t = some ⟨td, tz, tb, tr⟩) (hd : td = .slice e) (hte : lk E.tab e = some ⟨ed, ez, eb, er⟩) (hlo : bnd s 0 lo = some l) (hhi : bnd s n hi = some hh)
    (h0 : 0 ≤ l) (h1 : l ≤ hh) (h2 : hh ≤ n) : Yl ρ E k B s h o (.d (.rows (hh.toNat - l.toNat) ez (fun i => f (l.toNat + i)))) := fun U m a w r => by
  have h3 := r.evD hx
  generalize hv : a.eval x = v at h3
  cases h3 with | rows hlen h3 =>
  cases h3 with | @lst _ _ A cap g hk hc ha hv2 =>
  have hu : ∀ w', (underlying t).run E.P w' = .ok (.slice e) w' := fun w' => by have := und ht w'; rw [hd] at this; exact this
  have run : ∀ w', (execOp a.eval o).run E.P w' = .ok (.value (.slice (if cap = l.toNat then A else A.map (·.add (l.toNat * ez))) (hh.toNat - l.toNat) (cap - l.toNat))) w' := fun w' => by
    have hb := run_bounds (P := E.P) (g := true) (len := n) (cap := cap) r hlo hhi h0 h1 (by omega) hk w'
    simp only [execOp, ho, Instr.sliceAt, hv, Sem.run_bind, hu w', Result.andThen_ok, Instr.slice, Option.map_none, hb, szo hte w', Sem.run_pure]
  have hds := flatN_slice hlen (lo := l.toNat) (hh := hh.toNat) (by omega) (by omega)
  have hin : ∀ j c, (flatN (hh.toNat - l.toNat) (fun j => f (l.toNat + j)))[j]? = some c → (flatN n f)[l.toNat * ez + j]? = some c := fun j c hc => take_get hds hc
  have hdl := flatN_len (n := hh.toNat - l.toNat) (e := ez) (f := fun j => f (l.toNat + j)) (fun i hi => hlen _ (by omega))
  refine ⟨_, .d (.rows (fun i hi => hlen _ (by omega)) (.lst (fun j => g (l.toNat * ez + j)) (by omega) (by omega) (fun j hj => ?_) (fun j c hc => hv2 _ c (hin j c hc)))), fun w' _ => run w'⟩
  obtain ⟨ad, e1, e2, e3⟩ := ha _ (List.getElem?_eq_some_iff.1 (hin j _ (List.getElem?_eq_getElem hj))).1
  subst e1
  have add2 : ∀ o j, (ad.add o).add j = ad.add (o + j) := fun o j => by
    unfold Addr.add; split <;> split <;> split <;> simp_all [Nat.add_assoc]
  split
  · rename_i hcl
    have hz : hh.toNat - l.toNat = 0 := by omega
    rw [hdl, hz, Nat.zero_mul] at hj
    omega
  · exact ⟨_, rfl, by rw [add_block]; exact e2, by rw [add2]; exact e3⟩
/-- Lent: a row at hand that is told element by element. -/
theorem BLe.rowR {ec id o n j : Nat} {f : Nat → List D} (hb : lk h.b id = some (some (.rows j ec f))) (hn : o + n ≤ j) : BLe h (.sl ec id (o * ec) n) (.d (.rows n ec fun i => f (o + i))) := fun U m w r hH hv => by
  have hU : ∀ x, U x → lent U m h.b x := fun x hx => .inl hx
  cases hv with
  | sl0 hid hm => exact .d (.rows (fun i hi => by omega) (DR.nil_lst .nsl))
  | @sl _ _ _ _ xx cap z hid hm hk hc hz2 hs =>
    obtain ⟨_, hbr⟩ := hH.live id _ hb
    rw [hm] at hbr
    cases hbr with | rows hlen hbr =>
    obtain ⟨arr, et, g1, g2, g3⟩ := hbr
    have hds := flatN_slice hlen (lo := o) (hh := o + n) (by omega) hn
    rw [Nat.add_sub_cancel_left] at hds
    refine .d (.rows (fun i hi => hlen _ (by omega)) (.lst (fun j => arr.getD (o * ec + j) undef) hk hc (fun j hj => ⟨_, rfl, .inr ⟨id, _, hb, hm⟩, ?_⟩) (fun j c hc2 => ?_)))
    · have e2 := take_get hds (List.getElem?_eq_getElem hj)
      have e3 : o * ec + j < arr.size := Nat.lt_of_lt_of_le (List.getElem?_eq_some_iff.1 e2).1 g2
      rw [Addr.add_lit, cell_of_arr g1, Array.getD_eq_getD_getElem?, Array.getElem?_eq_getElem e3]; rfl
    · have e2 := take_get hds hc2
      have e3 : o * ec + j < arr.size := Nat.lt_of_lt_of_le (List.getElem?_eq_some_iff.1 e2).1 g2
      rw [Array.getD_eq_getD_getElem?, Array.getElem?_eq_getElem e3]
      exact (g3 _ _ _ e2 (Array.getElem?_eq_getElem e3)).mono hU (fun _ _ => rfl)
/-- What is appended, told element by element. -/
theorem Src.rows {x : Operand} {e n : Nat} {f : Nat → List D} (hx : evO s x = some (.d (.rows n e f))) (he : 0 < e) : Src s h x e n ((flatN n f).map .d) := fun k B U m a w r => by
  have h1 := r.evD hx
  generalize hv : a.eval x = v at h1
  cases h1 with | rows hlen h1 =>
  have hl := flatN_len hlen
  cases h1 with | @lst _ _ A cap g hk hc ha hv2 =>
  refine ⟨A, cap, (List.range (flatN n f).length).map g, rfl, by simp [hl], by simpa using hl, fun hA => ?_, fun ad hA j u hu => ?_, fun u hu => ?_, fun j c u hc hu => ?_⟩
  · cases n with
    | zero => rfl
    | succ n =>
      have : 0 < (flatN (n + 1) f).length := by rw [hl]; exact Nat.mul_pos (by omega) (by omega)
      obtain ⟨ad, h1, _⟩ := ha 0 this
      rw [hA] at h1; cases h1
  · rw [List.getElem?_map] at hu
    obtain ⟨i, hi, rfl⟩ := Option.map_eq_some_iff.1 hu
    obtain ⟨hj, h2⟩ := List.getElem?_eq_some_iff.1 hi
    simp at hj h2; subst h2
    obtain ⟨ad', h3, _, h4⟩ := ha j hj
    rw [hA] at h3; injection h3 with h3; subst h3; exact h4
  · obtain ⟨i, hi, rfl⟩ := List.mem_map.1 hu
    simp at hi
    exact dr_one (hv2 i _ (List.getElem?_eq_getElem hi))
  · rw [List.getElem?_map] at hc hu
    obtain ⟨c0, hc0, rfl⟩ := Option.map_eq_some_iff.1 hc
    obtain ⟨i, hi, rfl⟩ := Option.map_eq_some_iff.1 hu
    obtain ⟨hj, h2⟩ := List.getElem?_eq_some_iff.1 hi
    simp at h2; subst h2
    exact .d (hv2 j c0 hc0)
end
end Go.Proofs.Ytmgckodihnmjoaa
