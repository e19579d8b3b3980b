/-
  Keys dealt out by their bytes, in plain lists: what a stable dealing does, and that dealings from the lowest byte to the highest one put keys in order. Conditions: keys lie below 2^64.
-/
import Derived.Test.YtkepmkdnmmofmaaW3
set_option linter.unusedVariables false
set_option linter.unusedSimpArgs false
namespace Go.Proofs.Ytkepmkdnmmofmaa

def cnt (d : Nat → Nat) (o : List Nat) (c : Nat) : Nat := o.countP (fun i => d i == c)
def bel (d : Nat → Nat) (o : List Nat) (c : Nat) : Nat := o.countP (fun i => decide (d i < c))
def cls (d : Nat → Nat) (o : List Nat) (c : Nat) : List Nat := o.filter (fun i => d i == c)
def buck (d : Nat → Nat) (o : List Nat) (m : Nat) : List Nat := (List.range m).flatMap (cls d o)
theorem bel_zero (d : Nat → Nat) (o : List Nat) : bel d o 0 = 0 := by simp [bel]
theorem bel_succ (d : Nat → Nat) (o : List Nat) (c : Nat) : bel d o (c + 1) = bel d o c + cnt d o c := by
  unfold bel cnt
  induction o with
  | nil => rfl
  | cons i o ih =>
    simp only [List.countP_cons, ih]
    rcases Nat.lt_trichotomy (d i) c with h | h | h
    · simp [show d i < c + 1 by omega, h, show ¬ d i = c by omega]; omega
    · simp [h]; omega
    · simp [show ¬ d i < c + 1 by omega, show ¬ d i < c by omega, show ¬ d i = c by omega]
theorem bel_mono (d : Nat → Nat) (o : List Nat) {a b : Nat} (h : a ≤ b) : bel d o a ≤ bel d o b := by
  obtain ⟨k, rfl⟩ := Nat.exists_eq_add_of_le h
  induction k with
  | zero => simp
  | succ k ih => have := bel_succ d o (a + k); rw [show a + (k + 1) = a + k + 1 by omega]; have := ih (by omega); omega
theorem bel_all (d : Nat → Nat) (o : List Nat) (m : Nat) (h : ∀ i ∈ o, d i < m) : bel d o m = o.length := by
  unfold bel; rw [List.countP_eq_length]; intro i hi; simpa using h i hi
theorem bel_le (d : Nat → Nat) (o : List Nat) (m : Nat) : bel d o m ≤ o.length := List.countP_le_length
theorem cls_len (d : Nat → Nat) (o : List Nat) (c : Nat) : (cls d o c).length = cnt d o c := by simp [cls, cnt, List.countP_eq_length_filter]
theorem buck_succ (d : Nat → Nat) (o : List Nat) (m : Nat) : buck d o (m + 1) = buck d o m ++ cls d o m := by simp [buck, List.range_succ]
theorem buck_len (d : Nat → Nat) (o : List Nat) (m : Nat) : (buck d o m).length = bel d o m := by
  induction m with
  | zero => simp [buck, bel_zero]
  | succ m ih => rw [buck_succ, List.length_append, ih, cls_len, bel_succ]
theorem buck_get (d : Nat → Nat) (o : List Nat) (m c r : Nat) (hc : c < m) (hr : r < cnt d o c) : (buck d o m)[bel d o c + r]? = (cls d o c)[r]? := by
  induction m with
  | zero => omega
  | succ m ih =>
    rw [buck_succ]
    rcases Nat.lt_or_ge c m with h | h
    · have h1 := bel_mono d o (show c + 1 ≤ m by omega)
      rw [bel_succ] at h1
      rw [List.getElem?_append_left (by rw [buck_len]; omega), ih h]
    · obtain rfl : c = m := by omega
      rw [List.getElem?_append_right (by rw [buck_len]; omega), buck_len]
      congr 1; omega
theorem buck_place (d : Nat → Nat) (o : List Nat) (m q : Nat) (hq : q < bel d o m) : ∃ c r, c < m ∧ r < cnt d o c ∧ q = bel d o c + r := by
  induction m with
  | zero => rw [bel_zero] at hq; omega
  | succ m ih =>
    rcases Nat.lt_or_ge q (bel d o m) with h | h
    · obtain ⟨c, r, h1, h2, h3⟩ := ih h
      exact ⟨c, r, by omega, h2, h3⟩
    · rw [bel_succ] at hq
      exact ⟨m, q - bel d o m, by omega, by omega, by omega⟩
theorem filter_succ (d : Nat → Nat) (o : List Nat) (m : Nat) : (o.filter (fun i => decide (d i < m)) ++ cls d o m).Perm (o.filter (fun i => decide (d i < m + 1))) := by
  unfold cls
  induction o with
  | nil => exact List.Perm.refl _
  | cons i o ih =>
    rcases Nat.lt_trichotomy (d i) m with h | h | h
    · simp only [List.filter_cons, h, show d i < m + 1 by omega, show ¬ d i = m by omega, decide_true, beq_iff_eq, if_true, if_false, List.cons_append]
      exact ih.cons i
    · have e1 : (decide (d i < m)) = false := by simp; omega
      have e2 : (decide (d i < m + 1)) = true := by simp; omega
      have e3 : (d i == m) = true := by simpa using h
      simp only [List.filter_cons, e1, e2, e3, if_true]
      exact List.perm_middle.trans (ih.cons i)
    · have e1 : (decide (d i < m)) = false := by simp; omega
      have e2 : (decide (d i < m + 1)) = false := by simp; omega
      have e3 : (d i == m) = false := by simp; omega
      simp only [List.filter_cons, e1, e2, e3]
      exact ih
theorem buck_perm (d : Nat → Nat) (o : List Nat) (m : Nat) : (buck d o m).Perm (o.filter (fun i => decide (d i < m))) := by
  induction m with
  | zero => simp [buck]
  | succ m ih => rw [buck_succ]; exact (ih.append_right _).trans (filter_succ d o m)
theorem buck_same (d : Nat → Nat) (o : List Nat) (m : Nat) (h : ∀ i ∈ o, d i < m) : (buck d o m).Perm o := by
  have := buck_perm d o m
  rwa [List.filter_eq_self.2 (fun i hi => by simpa using h i hi)] at this
/-- A list in which each class lies from its place on is the dealt one. -/
theorem buck_of (d : Nat → Nat) (o nx : List Nat) (m : Nat) (h : ∀ i ∈ o, d i < m) (hl : nx.length = o.length) (hn : ∀ c r, c < m → r < cnt d o c → nx[bel d o c + r]? = (cls d o c)[r]?) : nx = buck d o m := by
  apply List.ext_getElem?
  intro q
  have hb := buck_len d o m
  have ha := bel_all d o m h
  rcases Nat.lt_or_ge q o.length with h1 | h1
  · obtain ⟨c, r, hc, hr, rfl⟩ := buck_place d o m q (by omega)
    rw [hn c r hc hr, buck_get d o m c r hc hr]
  · rw [List.getElem?_eq_none (by omega), List.getElem?_eq_none (by omega)]

/-- Ahead of another one, by the last bytes of its key, and then by its place. -/
def Ahd (key : Nat → Nat) (m i j : Nat) : Prop := key i % 256 ^ m < key j % 256 ^ m ∨ (key i % 256 ^ m = key j % 256 ^ m ∧ i < j)
def dig (key : Nat → Nat) (m i : Nat) : Nat := key i / 256 ^ m % 256
theorem dig_lt (key : Nat → Nat) (m i : Nat) : dig key m i < 256 := Nat.mod_lt _ (by decide)
theorem mod_succ (key : Nat → Nat) (m i : Nat) : key i % 256 ^ (m + 1) = key i % 256 ^ m + 256 ^ m * dig key m i := by
  rw [Nat.pow_succ, Nat.mod_mul]; rfl
theorem ahd_digit {key : Nat → Nat} {m i j : Nat} (h : dig key m i < dig key m j) : Ahd key (m + 1) i j := by
  left
  rw [mod_succ, mod_succ]
  have h1 : key i % 256 ^ m < 256 ^ m := Nat.mod_lt _ (Nat.pow_pos (by decide))
  have h2 : 256 ^ m * dig key m i + 256 ^ m ≤ 256 ^ m * dig key m j := by
    rw [← Nat.mul_succ]; exact Nat.mul_le_mul_left _ h
  omega
theorem ahd_same {key : Nat → Nat} {m i j : Nat} (h : dig key m i = dig key m j) (ha : Ahd key m i j) : Ahd key (m + 1) i j := by
  unfold Ahd at *
  rw [mod_succ, mod_succ, h]
  omega
theorem buck_sorted (key : Nat → Nat) (m M : Nat) (o : List Nat) (h : o.Pairwise (Ahd key m)) : (buck (dig key m) o M).Pairwise (Ahd key (m + 1)) ∧ ∀ i ∈ buck (dig key m) o M, dig key m i < M := by
  induction M with
  | zero => simp [buck]
  | succ M ih =>
    rw [buck_succ]
    refine ⟨List.pairwise_append.2 ⟨ih.1, ?_, fun a ha b hb => ?_⟩, fun i hi => ?_⟩
    · unfold cls
      have h1 := (h.filter (fun i => dig key m i == M))
      refine List.Pairwise.imp_of_mem (fun {a b} ha hb hab => ?_) h1
      simp only [List.mem_filter, beq_iff_eq] at ha hb
      exact ahd_same (by omega) hab
    · simp only [cls, List.mem_filter, beq_iff_eq] at hb
      have := ih.2 a ha
      exact ahd_digit (by omega)
    · rcases List.mem_append.1 hi with hi | hi
      · have := ih.2 i hi; omega
      · simp only [cls, List.mem_filter, beq_iff_eq] at hi; omega
/-- All dealings behind one another. -/
def dealt (key : Nat → Nat) (ds : List Nat) (o : List Nat) : List Nat := ds.foldl (fun o k => buck (dig key k) o 256) o
theorem dealt_snoc (key : Nat → Nat) (ds : List Nat) (k : Nat) (o : List Nat) : dealt key (ds ++ [k]) o = buck (dig key k) (dealt key ds o) 256 := by simp [dealt]
theorem dealt_perm (key : Nat → Nat) (ds : List Nat) (o : List Nat) : (dealt key ds o).Perm o := by
  induction ds generalizing o with
  | nil => exact List.Perm.refl _
  | cons k ds ih => exact (ih (buck (dig key k) o 256)).trans (buck_same _ _ _ (fun i _ => dig_lt key k i))
/-- The bytes by which the first keys differ. -/
def difB (key : Nat → Nat) (n k : Nat) : Bool := (List.range n).any (fun i => dig key k i != dig key k 0)
def difs (key : Nat → Nat) (n m : Nat) : List Nat := (List.range m).filter (difB key n)
theorem difs_succ (key : Nat → Nat) (n m : Nat) : difs key n (m + 1) = if difB key n m then difs key n m ++ [m] else difs key n m := by
  unfold difs
  rw [List.range_succ, List.filter_append]
  cases h : difB key n m <;> simp [h]
theorem difs_len (key : Nat → Nat) (n m : Nat) : (difs key n m).length ≤ m := by
  have := List.length_filter_le (difB key n) (List.range m)
  simpa [difs] using this
theorem difs_mem {key : Nat → Nat} {n m k : Nat} (h : k ∈ difs key n m) : k < m := by
  simp [difs] at h; exact h.1
/-- In order: each one of the first n once, by keys, and then by places. -/
def Aft (key : Nat → Nat) (i j : Nat) : Prop := key i < key j ∨ (key i = key j ∧ i < j)
structure Srt (key : Nat → Nat) (n : Nat) (o : List Nat) : Prop where
  perm : o.Perm (List.range n)
  rise : o.Pairwise (Aft key)
theorem Srt.same {key : Nat → Nat} {n : Nat} {o p : List Nat} (h : Srt key n o) (k : Srt key n p) : o = p := by
  refine (h.perm.trans k.perm.symm).eq_of_pairwise (le := Aft key) (fun a b _ _ h1 h2 => ?_) h.rise k.rise
  unfold Aft at *; omega
theorem Srt.len {key : Nat → Nat} {n : Nat} {o : List Nat} (h : Srt key n o) : o.length = n := by simpa using h.perm.length_eq
theorem Srt.lt {key : Nat → Nat} {n : Nat} {o : List Nat} (h : Srt key n o) {i : Nat} (hi : i ∈ o) : i < n := by
  simpa using h.perm.mem_iff.1 hi
theorem dealt_rise (key : Nat → Nat) (n m : Nat) : (dealt key (difs key n m) (List.range n)).Pairwise (Ahd key m) := by
  induction m with
  | zero =>
    have : dealt key (difs key n 0) (List.range n) = List.range n := rfl
    rw [this]
    refine List.Pairwise.imp (fun {a b} h => ?_) (List.pairwise_lt_range (n := n))
    exact .inr ⟨by simp [Nat.mod_one], h⟩
  | succ m ih =>
    rw [difs_succ]
    cases h : difB key n m
    · simp only [Bool.false_eq_true, if_false]
      refine List.Pairwise.imp_of_mem (fun {a b} ha hb hab => ahd_same ?_ hab) ih
      have ha := (dealt_perm key _ _).mem_iff.1 ha
      have hb := (dealt_perm key _ _).mem_iff.1 hb
      unfold difB at h
      rw [List.any_eq_false] at h
      have h1 := h a ha
      have h2 := h b hb
      simp at h1 h2
      omega
    · simp only [if_true]
      rw [dealt_snoc]
      exact (buck_sorted key m 256 _ ih).1
theorem dealt_srt (key : Nat → Nat) (n : Nat) (hk : ∀ i, i < n → key i < 18446744073709551616) : Srt key n (dealt key (difs key n 8) (List.range n)) := by
  refine ⟨dealt_perm _ _ _, ?_⟩
  refine List.Pairwise.imp_of_mem (fun {a b} ha hb hab => ?_) (dealt_rise key n 8)
  have ha := (dealt_perm key _ _).mem_iff.1 ha
  have hb := (dealt_perm key _ _).mem_iff.1 hb
  simp only [List.mem_range] at ha hb
  have h1 := hk a ha
  have h2 := hk b hb
  unfold Ahd at hab
  rw [Nat.mod_eq_of_lt (by simpa using h1), Nat.mod_eq_of_lt (by simpa using h2)] at hab
  exact hab
/-- One more is put in at its place. -/
theorem srt_put (key : Nat → Nat) (i : Nat) (o : List Nat) (h : Srt key i o) (t : Nat) (ht : t ≤ o.length) (hb : ∀ q, q < t → ∀ x, o[q]? = some x → key x ≤ key i) (ha : ∀ q, t ≤ q → ∀ x, o[q]? = some x → key i < key x) : Srt key (i + 1) (o.take t ++ [i] ++ o.drop t) := by
  constructor
  · rw [List.range_succ]
    have h1 : (o.take t ++ [i] ++ o.drop t).Perm (i :: (o.take t ++ o.drop t)) := by
      rw [List.append_assoc]; exact List.perm_middle
    rw [List.take_append_drop] at h1
    refine h1.trans ((h.perm.cons i).trans ?_)
    have h2 : (List.range i ++ [i]).Perm (i :: (List.range i ++ [])) := List.perm_middle
    simpa using h2.symm
  · have h0 := h.rise
    have hlt := fun x hx => h.lt (i := x) hx
    rw [← List.take_append_drop t o] at h0
    obtain ⟨p1, p2, p3⟩ := List.pairwise_append.1 h0
    rw [List.append_assoc]
    refine List.pairwise_append.2 ⟨p1, ?_, fun a ha1 b hb1 => ?_⟩
    · refine List.pairwise_append.2 ⟨by simp, p2, fun a ha1 b hb1 => ?_⟩
      simp only [List.mem_singleton] at ha1; subst ha1
      obtain ⟨q, hq, rfl⟩ := List.getElem_of_mem hb1
      left
      rw [List.getElem_drop]
      exact ha (t + q) (by omega) _ (List.getElem?_eq_getElem _)
    · rcases List.mem_append.1 hb1 with hb1 | hb1
      · simp only [List.mem_singleton] at hb1; subst hb1
        obtain ⟨q, hq, rfl⟩ := List.getElem_of_mem ha1
        have hq' : q < t := by rw [List.length_take] at hq; omega
        have h3 := hb q hq' _ (List.getElem?_eq_getElem (by rw [List.length_take] at hq; omega))
        have h4 := hlt _ (List.mem_of_mem_take (List.getElem_mem hq))
        rw [List.getElem_take] at h4 ⊢
        unfold Aft; omega
      · exact p3 a ha1 b hb1
/-! ## The three loops of a dealing -/
def nthN (o : List Nat) (j : Nat) : Nat := o.getD j 0
theorem nthN_get (o : List Nat) (j : Nat) (h : j < o.length) : nthN o j = o[j] := by simp [nthN, h]
theorem nthN_some {o : List Nat} {j x : Nat} (h : o[j]? = some x) : nthN o j = x := by simp [nthN, h]
theorem nthN_mem (o : List Nat) (j : Nat) (h : j < o.length) : nthN o j ∈ o := by rw [nthN_get _ _ h]; exact List.getElem_mem h
theorem take_next (o : List Nat) (j : Nat) (h : j < o.length) : o.take (j + 1) = o.take j ++ [nthN o j] := by
  rw [List.take_succ_eq_append_getElem h, nthN_get _ _ h]
theorem cnt_next (d : Nat → Nat) (o : List Nat) (j c : Nat) (h : j < o.length) : cnt d (o.take (j + 1)) c = cnt d (o.take j) c + (if d (nthN o j) = c then 1 else 0) := by
  unfold cnt
  rw [take_next o j h, List.countP_append]
  simp [List.countP_cons]
theorem cnt_take_le (d : Nat → Nat) (o : List Nat) (j c : Nat) : cnt d (o.take j) c ≤ cnt d o c := by
  unfold cnt
  conv => rhs; rw [← List.take_append_drop j o, List.countP_append]
  omega
theorem cnt_le (d : Nat → Nat) (o : List Nat) (c : Nat) : cnt d o c ≤ o.length := List.countP_le_length
def CntP (d : Nat → Nat) (o : List Nat) (j : Nat) (ff : Nat → Nat) : Prop := ff 0 = 0 ∧ ∀ c, c < 256 → ff (c + 1) = cnt d (o.take j) c
theorem cntP_zero (d : Nat → Nat) (o : List Nat) : CntP d o 0 (fun _ => 0) := ⟨rfl, fun c _ => by simp [cnt]⟩
theorem cntP_succ {d : Nat → Nat} {o : List Nat} {j : Nat} {ff : Nat → Nat} (h : CntP d o j ff) (hj : j < o.length) (hd : ∀ i, d i < 256) : CntP d o (j + 1) (updN ff (d (nthN o j) + 1) (ff (d (nthN o j) + 1) + 1)) := by
  refine ⟨by rw [updN_ne _ _ _ (by omega)]; exact h.1, fun c hc => ?_⟩
  rw [cnt_next d o j c hj]
  by_cases e : d (nthN o j) = c
  · subst e; rw [updN_same, h.2 _ hc, if_pos rfl]
  · rw [updN_ne _ _ _ (by omega), h.2 _ hc, if_neg e]; rfl
theorem cntP_le {d : Nat → Nat} {o : List Nat} {j : Nat} {ff : Nat → Nat} (h : CntP d o j ff) (c : Nat) (hc : c ≤ 256) : ff c ≤ o.length := by
  cases c with
  | zero => rw [h.1]; omega
  | succ c => rw [h.2 c (by omega)]; exact Nat.le_trans (cnt_take_le _ _ _ _) (cnt_le _ _ _)
def PreP (d : Nat → Nat) (o : List Nat) (c : Nat) (ff : Nat → Nat) : Prop := (∀ j, j ≤ c → ff j = bel d o j) ∧ ∀ j, c < j → j ≤ 256 → ff j = cnt d o (j - 1)
theorem preP_zero {d : Nat → Nat} {o : List Nat} {ff : Nat → Nat} (h : CntP d o o.length ff) : PreP d o 0 ff := by
  refine ⟨fun j hj => ?_, fun j hj hj2 => ?_⟩
  · obtain rfl : j = 0 := by omega
    rw [h.1, bel_zero]
  · obtain ⟨c, rfl⟩ : ∃ c, j = c + 1 := ⟨j - 1, by omega⟩
    rw [h.2 c (by omega), List.take_length]; rfl
theorem preP_succ {d : Nat → Nat} {o : List Nat} {c : Nat} {ff : Nat → Nat} (h : PreP d o c ff) (hc : c < 256) : PreP d o (c + 1) (updN ff (c + 1) (ff (c + 1) + ff c)) := by
  refine ⟨fun j hj => ?_, fun j hj hj2 => ?_⟩
  · by_cases e : j = c + 1
    · subst e; rw [updN_same, h.1 c (by omega), h.2 (c + 1) (by omega) (by omega), bel_succ]; simp; omega
    · rw [updN_ne _ _ _ e]; exact h.1 j (by omega)
  · rw [updN_ne _ _ _ (by omega)]; exact h.2 j (by omega) hj2
theorem preP_le {d : Nat → Nat} {o : List Nat} {c : Nat} {ff : Nat → Nat} (h : PreP d o c ff) (j : Nat) (hj : j ≤ 256) : ff j ≤ o.length := by
  rcases Nat.lt_or_ge c j with h1 | h1
  · rw [h.2 j h1 hj]; exact cnt_le _ _ _
  · rw [h.1 j h1]; exact bel_le _ _ _
def DealP (d : Nat → Nat) (o : List Nat) (j : Nat) (ff fn : Nat → Nat) : Prop := (∀ c, c < 256 → ff c = bel d o c + cnt d (o.take j) c) ∧ ∀ c r, c < 256 → r < cnt d (o.take j) c → fn (bel d o c + r) = nthN (cls d (o.take j) c) r
theorem dealP_zero {d : Nat → Nat} {o : List Nat} {ff fn : Nat → Nat} (h : PreP d o 256 ff) : DealP d o 0 ff fn := by
  refine ⟨fun c hc => ?_, fun c r _ hr => ?_⟩
  · rw [h.1 c (by omega)]; simp [cnt]
  · simp [cnt] at hr
theorem dealP_lt {d : Nat → Nat} {o : List Nat} {j : Nat} {ff fn : Nat → Nat} (h : DealP d o j ff fn) (hj : j < o.length) (hd : ∀ i, d i < 256) : ff (d (nthN o j)) < o.length := by
  rw [h.1 _ (hd _)]
  have h1 := cnt_next d o j (d (nthN o j)) hj
  have h2 := cnt_take_le d o (j + 1) (d (nthN o j))
  have h3 := bel_succ d o (d (nthN o j))
  have h4 := bel_le d o (d (nthN o j) + 1)
  simp only [if_true] at h1
  omega
theorem dealP_succ {d : Nat → Nat} {o : List Nat} {j : Nat} {ff fn : Nat → Nat} (h : DealP d o j ff fn) (hj : j < o.length) (hd : ∀ i, d i < 256) : DealP d o (j + 1) (updN ff (d (nthN o j)) (ff (d (nthN o j)) + 1)) (updN fn (ff (d (nthN o j))) (nthN o j)) := by
  refine ⟨fun c hc => ?_, fun c r hc hr => ?_⟩
  · rw [cnt_next d o j c hj]
    by_cases e : d (nthN o j) = c
    · subst e; rw [updN_same, h.1 _ hc, if_pos rfl]; omega
    · rw [updN_ne _ _ _ (Ne.symm e), h.1 _ hc, if_neg e]; omega
  · rw [cnt_next d o j c hj] at hr
    have hcls : cls d (o.take (j + 1)) c = cls d (o.take j) c ++ (if d (nthN o j) = c then [nthN o j] else []) := by
      unfold cls
      rw [take_next o j hj, List.filter_append]
      congr 1
      by_cases e : d (nthN o j) = c <;> simp [e]
    have hl := cls_len d (o.take j) c
    have e0 := h.1 _ (hd (nthN o j))
    have b1 := bel_succ d o c
    have b2 := bel_succ d o (d (nthN o j))
    have t1 := cnt_next d o j (d (nthN o j)) hj
    have t2 := cnt_take_le d o (j + 1) (d (nthN o j))
    have t3 := cnt_take_le d o j c
    simp only [if_true] at t1
    by_cases e : d (nthN o j) = c
    · rw [if_pos e] at hr hcls
      by_cases hr2 : r = cnt d (o.take j) c
      · subst hr2
        rw [e] at e0
        rw [e, e0, updN_same, hcls]
        exact (nthN_some (by rw [List.getElem?_append_right (by omega), hl]; simp)).symm
      · rw [e] at e0
        rw [e, updN_ne _ _ _ (by omega), h.2 c r hc (by omega), hcls]
        unfold nthN
        rw [List.getD_eq_getElem?_getD, List.getD_eq_getElem?_getD, List.getElem?_append_left (by omega)]
    · rw [if_neg e] at hr hcls
      rw [updN_ne, h.2 c r hc (by omega), hcls, List.append_nil]
      rcases Nat.lt_or_ge c (d (nthN o j)) with h5 | h5
      · have := bel_mono d o (show c + 1 ≤ d (nthN o j) by omega); omega
      · have := bel_mono d o (show d (nthN o j) + 1 ≤ c by omega); omega
theorem dealP_end {d : Nat → Nat} {o : List Nat} {ff fn : Nat → Nat} (h : DealP d o o.length ff fn) (hd : ∀ i, d i < 256) (q : Nat) (hq : q < o.length) : fn q = nthN (buck d o 256) q := by
  have ha := bel_all d o 256 (fun i _ => hd i)
  obtain ⟨c, r, hc, hr, rfl⟩ := buck_place d o 256 q (by omega)
  have h2 := h.2 c r hc
  rw [List.take_length] at h2
  rw [h2 hr]
  unfold nthN
  simp only [List.getD_eq_getElem?_getD]
  rw [buck_get d o 256 c r hc hr]
end Go.Proofs.Ytkepmkdnmmofmaa
