/-
  The package affine: the product of two matrices; walked. Conditions: none.
-/
import Derived.Test.YtmgckodihnmjoaaAff
import Derived.Deep.DeepCutAuto
set_option linter.unusedVariables false
set_option linter.unusedSimpArgs false
namespace Go.Proofs.Ytmgckodihnmjoaa
open Go.RowKit

/-- A block of so many whole numbers. -/
structure RowZ (w : World) (g e N : Nat) (v : Nat → Int) : Prop where mk :: (out : ∃ cs, Lies w g cs e ∧ cs.size = N ∧ ∀ j, j < N → cs[j]? = some (.int .i64 (v j)))
theorem RowZ.at_ {w : World} {g e N : Nat} {v : Nat → Int} (h : RowZ w g e N v) (j : Nat) (hj : j < N) : w.cell? ⟨g, j, none⟩ = some (.int .i64 (v j)) ∧ w.frozen? ⟨g, j, none⟩ = false := by
  obtain ⟨cs, h1, _, h3⟩ := h.out
  exact h1.at_ j _ (h3 j hj)
theorem RowZ.ext {w w' : World} {g e N : Nat} {v : Nat → Int} (h : RowZ w g e N v) (hx : Ext w w') : RowZ w' g e N v := by
  obtain ⟨cs, h1, h2⟩ := h.out
  exact ⟨⟨cs, h1.ext hx, h2⟩⟩
theorem RowZ.set {w : World} {g e N : Nat} {v u : Nat → Int} (h : RowZ w g e N v) (i : Nat) (x : Int) (h1 : u i = x) (h2 : ∀ j, j < N → j ≠ i → u j = v j) : RowZ (w.setCell ⟨g, i, none⟩ (.int .i64 x)) g e N u := by
  obtain ⟨cs, hl, hn, h3⟩ := h.out
  refine ⟨⟨_, hl.set _ _, by simpa using hn, fun j hj => ?_⟩⟩
  by_cases e : j = i
  · subst e; rw [Array.getElem?_setIfInBounds, if_pos rfl, if_pos (by omega), h1]
  · rw [Array.getElem?_setIfInBounds, if_neg (by omega), h2 j hj e]; exact h3 j hj
theorem RowZ.other {w : World} {g e N : Nat} {v : Nat → Int} (h : RowZ w g e N v) {k : Nat} (hk : k ≠ g) (i : Nat) (x : Value) : RowZ (w.setCell ⟨k, i, none⟩ x) g e N v := by
  obtain ⟨cs, h1, h2⟩ := h.out
  exact ⟨⟨cs, h1.other hk i x, h2⟩⟩
theorem row12 {w : World} {g e : Nat} {v : Nat → Int} (h : Lies w g #[.int .i64 (v 0), .int .i64 (v 1), .int .i64 (v 2), .int .i64 (v 3), .int .i64 (v 4), .int .i64 (v 5), .int .i64 (v 6), .int .i64 (v 7), .int .i64 (v 8), .int .i64 (v 9), .int .i64 (v 10), .int .i64 (v 11)] e) : RowZ w g e 12 v := by
  refine ⟨⟨_, h, rfl, fun j hj => ?_⟩⟩
  match j, hj with
  | 0, _ => rfl
  | 1, _ => rfl
  | 2, _ => rfl
  | 3, _ => rfl
  | 4, _ => rfl
  | 5, _ => rfl
  | 6, _ => rfl
  | 7, _ => rfl
  | 8, _ => rfl
  | 9, _ => rfl
  | 10, _ => rfl
  | 11, _ => rfl
theorem RowZ.lies {w : World} {g e : Nat} {v : Nat → Int} (h : RowZ w g e 12 v) : Lies w g #[.int .i64 (v 0), .int .i64 (v 1), .int .i64 (v 2), .int .i64 (v 3), .int .i64 (v 4), .int .i64 (v 5), .int .i64 (v 6), .int .i64 (v 7), .int .i64 (v 8), .int .i64 (v 9), .int .i64 (v 10), .int .i64 (v 11)] e := by
  obtain ⟨cs, h1, hn, h3⟩ := h.out
  have : cs = #[.int .i64 (v 0), .int .i64 (v 1), .int .i64 (v 2), .int .i64 (v 3), .int .i64 (v 4), .int .i64 (v 5), .int .i64 (v 6), .int .i64 (v 7), .int .i64 (v 8), .int .i64 (v 9), .int .i64 (v 10), .int .i64 (v 11)] := by
    apply Array.ext_getElem?
    intro j
    by_cases hj : j < 12
    · rw [h3 j hj]
      match j, hj with
      | 0, _ => rfl
      | 1, _ => rfl
      | 2, _ => rfl
      | 3, _ => rfl
      | 4, _ => rfl
      | 5, _ => rfl
      | 6, _ => rfl
      | 7, _ => rfl
      | 8, _ => rfl
      | 9, _ => rfl
      | 10, _ => rfl
      | 11, _ => rfl
    · rw [Array.getElem?_eq_none (by omega), Array.getElem?_eq_none (by simpa using hj)]
  rw [← this]; exact h1
theorem RowZ.congr {w : World} {g e N : Nat} {v u : Nat → Int} (h : RowZ w g e N v) (hv : ∀ j, j < N → v j = u j) : RowZ w g e N u := by
  obtain ⟨cs, h1, h2, h3⟩ := h.out
  exact ⟨⟨cs, h1, h2, fun j hj => by rw [h3 j hj, hv j hj]⟩⟩
def mixV (v u : Nat → Int) (n j : Nat) : Int := if j < n then u j else v j
theorem RowZ.all12 {w : World} {g e : Nat} {v : Nat → Int} (h : RowZ w g e 12 v) (u : Nat → Int) : RowZ ((((((((((((w.setCell ⟨g, 0, none⟩ (.int .i64 (u 0))).setCell ⟨g, 1, none⟩ (.int .i64 (u 1))).setCell ⟨g, 2, none⟩ (.int .i64 (u 2))).setCell ⟨g, 3, none⟩ (.int .i64 (u 3))).setCell ⟨g, 4, none⟩ (.int .i64 (u 4))).setCell ⟨g, 5, none⟩ (.int .i64 (u 5))).setCell ⟨g, 6, none⟩ (.int .i64 (u 6))).setCell ⟨g, 7, none⟩ (.int .i64 (u 7))).setCell ⟨g, 8, none⟩ (.int .i64 (u 8))).setCell ⟨g, 9, none⟩ (.int .i64 (u 9))).setCell ⟨g, 10, none⟩ (.int .i64 (u 10))).setCell ⟨g, 11, none⟩ (.int .i64 (u 11))) g e 12 u := by
  have step : ∀ n (w' : World), RowZ w' g e 12 (mixV v u n) → RowZ (w'.setCell ⟨g, n, none⟩ (.int .i64 (u n))) g e 12 (mixV v u (n + 1)) := fun n w' h' => h'.set n (u n) (by simp [mixV]) (fun j _ hj => by
    unfold mixV
    by_cases h4 : j < n
    · rw [if_pos h4, if_pos (by omega)]
    · rw [if_neg h4, if_neg (by omega)])
  have h0 : RowZ w g e 12 (mixV v u 0) := h.congr (fun j _ => by simp [mixV])
  exact RowZ.congr (step 11 _ (step 10 _ (step 9 _ (step 8 _ (step 7 _ (step 6 _ (step 5 _ (step 4 _ (step 3 _ (step 2 _ (step 1 _ (step 0 _ h0)))))))))))) (fun j hj => by simp [mixV, hj])
theorem ext12 {a b : World} {g : Nat} (h : Ext a b) (hg : a.heap.size ≤ g) (x0 x1 x2 x3 x4 x5 x6 x7 x8 x9 x10 x11 : Value) : Ext a ((((((((((((b.setCell ⟨g, 0, none⟩ x0).setCell ⟨g, 1, none⟩ x1).setCell ⟨g, 2, none⟩ x2).setCell ⟨g, 3, none⟩ x3).setCell ⟨g, 4, none⟩ x4).setCell ⟨g, 5, none⟩ x5).setCell ⟨g, 6, none⟩ x6).setCell ⟨g, 7, none⟩ x7).setCell ⟨g, 8, none⟩ x8).setCell ⟨g, 9, none⟩ x9).setCell ⟨g, 10, none⟩ x10).setCell ⟨g, 11, none⟩ x11) :=
  (((((((((((h.set (p := ⟨g, 0, none⟩) hg x0).set (p := ⟨g, 1, none⟩) hg x1).set (p := ⟨g, 2, none⟩) hg x2).set (p := ⟨g, 3, none⟩) hg x3).set (p := ⟨g, 4, none⟩) hg x4).set (p := ⟨g, 5, none⟩) hg x5).set (p := ⟨g, 6, none⟩) hg x6).set (p := ⟨g, 7, none⟩) hg x7).set (p := ⟨g, 8, none⟩) hg x8).set (p := ⟨g, 9, none⟩) hg x9).set (p := ⟨g, 10, none⟩) hg x10).set (p := ⟨g, 11, none⟩) hg x11
/-- Of some errors the first one. -/
def firstE (E : Nat → Int) : Nat → Int
  | 0 => 0
  | n + 1 => if firstE E n = 0 then E n else firstE E n
theorem firstE_hit {E : Nat → Int} {i n : Nat} (h : firstE E i = 0) (he : ¬ E i = 0) (hi : i < n) : firstE E n = E i := by
  induction n with
  | zero => omega
  | succ n ih =>
    unfold firstE
    rcases Nat.lt_or_ge i n with h1 | h1
    · rw [ih h1, if_neg he]
    · obtain rfl : i = n := by omega
      rw [if_pos h]
theorem firstE_next {E : Nat → Int} {i : Nat} (h : firstE E i = 0) (he : E i = 0) : firstE E (i + 1) = 0 := by
  unfold firstE; rw [if_pos h, he]
def entR (a b : Nat → Int) (r k : Nat) : Int := prodR (a (4 * r)) (a (4 * r + 1)) (a (4 * r + 2)) (b k) (b (4 + k)) (b (8 + k)) (if k = 3 then a (4 * r + 3) else 0)
def entE (a b : Nat → Int) (r k : Nat) : Int := prodE (a (4 * r)) (a (4 * r + 1)) (a (4 * r + 2)) (b k) (b (4 + k)) (b (8 + k)) (if k = 3 then a (4 * r + 3) else 0)
def entsR (a b : Nat → Int) (i : Nat) : Int := entR a b (i / 4) (i % 4)
def entsE (a b : Nat → Int) (i : Nat) : Int := entE a b (i / 4) (i % 4)
theorem ents_at (a b : Nat → Int) (r k : Nat) (hk : k < 4) : entsR a b (4 * r + k) = entR a b r k ∧ entsE a b (4 * r + k) = entE a b r k := by
  unfold entsR entsE
  rw [show (4 * r + k) / 4 = r by omega, show (4 * r + k) % 4 = k by omega]
  exact ⟨rfl, rfl⟩
def twoE (a b : Nat → Int) : Int := firstE (entsE a b) 12
def twoR (a b : Nat → Int) (j : Nat) : Int := if twoE a b = 0 then entsR a b j else 0
/-- What a matrix' call hands back. -/
def RetM (w : World) (E : Int) (v : Nat → Int) (e : Ending) (w' : World) : Prop := e = .returned (.tuple #[.agg #[.int .i64 (v 0), .int .i64 (v 1), .int .i64 (v 2), .int .i64 (v 3), .int .i64 (v 4), .int .i64 (v 5), .int .i64 (v 6), .int .i64 (v 7), .int .i64 (v 8), .int .i64 (v 9), .int .i64 (v 10), .int .i64 (v 11)], .int .i64 E]) ∧ Ext w w'
def RetM0 (w : World) (v : Nat → Int) (e : Ending) (w' : World) : Prop := e = .returned (.agg #[.int .i64 (v 0), .int .i64 (v 1), .int .i64 (v 2), .int .i64 (v 3), .int .i64 (v 4), .int .i64 (v 5), .int .i64 (v 6), .int .i64 (v 7), .int .i64 (v 8), .int .i64 (v 9), .int .i64 (v 10), .int .i64 (v 11)]) ∧ Ext w w'
def zeroM (_ : Nat) : Int := 0
/-- The state of a product: what came, the result's cell, and what has been made so far. -/
structure TwoSt (w w' : World) (pa pb gr go : Nat) (a b v : Nat → Int) : Prop where
  ext : Ext w w'
  la : RowZ w' pa 49 12 a
  lb : RowZ w' pb 49 12 b
  res : RowZ w' gr 49 12 zeroM
  row : RowZ w' go 49 12 v
theorem TwoSt.next {w w' w2 : World} {pa pb gr go : Nat} {a b v : Nat → Int} (h : TwoSt w w' pa pb gr go a b v) (hx : Ext w' w2) : TwoSt w w2 pa pb gr go a b v :=
  ⟨h.ext.trans hx, h.la.ext hx, h.lb.ext hx, h.res.ext hx, h.row.ext hx⟩
/-- The first entries are done. -/
def doneV (V : Nat → Int) (n j : Nat) : Int := if j < n then V j else 0
theorem TwoSt.set {w w' : World} {pa pb gr go : Nat} {a b V : Nat → Int} {n : Nat} (h : TwoSt w w' pa pb gr go a b (doneV V n)) (h0 : w.heap.size ≤ go) (h1 : go ≠ pa) (h2 : go ≠ pb) (h3 : go ≠ gr) (x : Int) (hx : V n = x) : TwoSt w (w'.setCell ⟨go, n, none⟩ (.int .i64 x)) pa pb gr go a b (doneV V (n + 1)) :=
  ⟨h.ext.set h0 _, h.la.other h1 _ _, h.lb.other h2 _ _, h.res.other h3 _ _, h.row.set n x (by simp [doneV, hx]) (fun j _ hj => by
    unfold doneV
    by_cases h4 : j < n
    · rw [if_pos h4, if_pos (by omega)]
    · rw [if_neg h4, if_neg (by omega)])⟩
set_option maxRecDepth 20000 in
set_option maxHeartbeats 20000000 in
theorem two_any (a b : Nat → Int) (w : World) : Calls Try.prog 94 #[.agg #[.int .i64 (a 0), .int .i64 (a 1), .int .i64 (a 2), .int .i64 (a 3), .int .i64 (a 4), .int .i64 (a 5), .int .i64 (a 6), .int .i64 (a 7), .int .i64 (a 8), .int .i64 (a 9), .int .i64 (a 10), .int .i64 (a 11)], .agg #[.int .i64 (b 0), .int .i64 (b 1), .int .i64 (b 2), .int .i64 (b 3), .int .i64 (b 4), .int .i64 (b 5), .int .i64 (b 6), .int .i64 (b 7), .int .i64 (b 8), .int .i64 (b 9), .int .i64 (b 10), .int .i64 (b 11)]] w (RetM w (twoE a b) (twoR a b)) := by
  have hl0 : w.heap.size ≤ w.heap.size + 1 + 1 := by omega
  have hl1 : w.heap.size ≤ w.heap.size + 1 + 1 + 1 := by omega
  have hs : TwoSt w ((((w.alloc (.cells #[.int .i64 (a 0), .int .i64 (a 1), .int .i64 (a 2), .int .i64 (a 3), .int .i64 (a 4), .int .i64 (a 5), .int .i64 (a 6), .int .i64 (a 7), .int .i64 (a 8), .int .i64 (a 9), .int .i64 (a 10), .int .i64 (a 11)] 49)).alloc (.cells #[.int .i64 (b 0), .int .i64 (b 1), .int .i64 (b 2), .int .i64 (b 3), .int .i64 (b 4), .int .i64 (b 5), .int .i64 (b 6), .int .i64 (b 7), .int .i64 (b 8), .int .i64 (b 9), .int .i64 (b 10), .int .i64 (b 11)] 49)).alloc (.cells #[.int .i64 (zeroM 0), .int .i64 (zeroM 1), .int .i64 (zeroM 2), .int .i64 (zeroM 3), .int .i64 (zeroM 4), .int .i64 (zeroM 5), .int .i64 (zeroM 6), .int .i64 (zeroM 7), .int .i64 (zeroM 8), .int .i64 (zeroM 9), .int .i64 (zeroM 10), .int .i64 (zeroM 11)] 49)).alloc (.cells #[.int .i64 (zeroM 0), .int .i64 (zeroM 1), .int .i64 (zeroM 2), .int .i64 (zeroM 3), .int .i64 (zeroM 4), .int .i64 (zeroM 5), .int .i64 (zeroM 6), .int .i64 (zeroM 7), .int .i64 (zeroM 8), .int .i64 (zeroM 9), .int .i64 (zeroM 10), .int .i64 (zeroM 11)] 49)) w.heap.size (w.heap.size + 1) (w.heap.size + 1 + 1) (w.heap.size + 1 + 1 + 1) a b (doneV (entsR a b) 0) :=
    ⟨((((Ext.refl _).alloc _).alloc _).alloc _).alloc _, (row12 (Lies.new w _ _ _ rfl)).ext ((((Ext.refl _).alloc _).alloc _).alloc _), (row12 (Lies.new (w.alloc (.cells #[.int .i64 (a 0), .int .i64 (a 1), .int .i64 (a 2), .int .i64 (a 3), .int .i64 (a 4), .int .i64 (a 5), .int .i64 (a 6), .int .i64 (a 7), .int .i64 (a 8), .int .i64 (a 9), .int .i64 (a 10), .int .i64 (a 11)] 49)) _ _ (w.heap.size + 1) (by simp))).ext (((Ext.refl _).alloc _).alloc _),
     (row12 (Lies.new ((w.alloc (.cells #[.int .i64 (a 0), .int .i64 (a 1), .int .i64 (a 2), .int .i64 (a 3), .int .i64 (a 4), .int .i64 (a 5), .int .i64 (a 6), .int .i64 (a 7), .int .i64 (a 8), .int .i64 (a 9), .int .i64 (a 10), .int .i64 (a 11)] 49)).alloc (.cells #[.int .i64 (b 0), .int .i64 (b 1), .int .i64 (b 2), .int .i64 (b 3), .int .i64 (b 4), .int .i64 (b 5), .int .i64 (b 6), .int .i64 (b 7), .int .i64 (b 8), .int .i64 (b 9), .int .i64 (b 10), .int .i64 (b 11)] 49)) _ _ (w.heap.size + 1 + 1) (by simp))).ext ((Ext.refl _).alloc _), row12 (Lies.new _ _ _ (w.heap.size + 1 + 1 + 1) (by simp))⟩
  have HS := Lib.hid hs; clear hs
  go_enter Try.func94, Try.ntmps94
  go_wp2
  go_loopw [7, 8, 9, 10, 11, 12, 15] (fun _ _ _ _ _ i _ wr => ∃ r : Nat, r ≤ 3 ∧ i = .int .i64 r ∧ firstE (entsE a b) (4 * r) = 0 ∧ TwoSt w wr w.heap.size (w.heap.size + 1) (w.heap.size + 1 + 1) (w.heap.size + 1 + 1 + 1) a b (doneV (entsR a b) (4 * r))) (fun _ _ _ _ _ i _ _ => 3 - (intOf i).toNat)
  case atStart => exact ⟨0, by omega, rfl, rfl, HS.out⟩
  case round =>
    obtain ⟨r, hr, rfl, hf, ht⟩ := hrel
    obtain ⟨wo, rfl⟩ : ∃ wo : World, wo = wr := ⟨_, rfl⟩
    have HF := Lib.hid hf; have HT := Lib.hid ht; clear hf ht
    have hr3b := hr
    by_cases hr3 : r < 3
    · have hr3d : decide ((r : Int) < 3) = true := decide_eq_true (by omega)
      go_wp2
      go_loopw [8, 9, 10, 11, 15] (fun _ _ _ _ i wr => ∃ k : Nat, k ≤ 4 ∧ i = .int .i64 k ∧ firstE (entsE a b) (4 * r + k) = 0 ∧ TwoSt w wr w.heap.size (w.heap.size + 1) (w.heap.size + 1 + 1) (w.heap.size + 1 + 1 + 1) a b (doneV (entsR a b) (4 * r + k))) (fun _ _ _ _ i _ => 4 - (intOf i).toNat)
      case atStart => exact ⟨0, by omega, rfl, HF.out, HT.out⟩
      case round =>
        obtain ⟨k, hk, rfl, hf, ht⟩ := hrel
        have HF2 := Lib.hid hf; have HT2 := Lib.hid ht; clear hf ht
        by_cases hk4 : k < 4
        · have hk4d : decide ((k : Int) < 4) = true := decide_eq_true (by omega)
          have hat := Lib.hid (ents_at a b r k hk4)
          obtain ⟨d0, _⟩ := HT2.out.la.at_ (4 * r + 3) (by omega)
          have hmore : ∀ mo : Int, mo = (if k = 3 then a (4 * r + 3) else 0) → prodR (a (4 * r)) (a (4 * r + 1)) (a (4 * r + 2)) (b k) (b (4 + k)) (b (8 + k)) mo = entR a b r k ∧ prodE (a (4 * r)) (a (4 * r + 1)) (a (4 * r + 2)) (b k) (b (4 + k)) (b (8 + k)) mo = entE a b r k := fun mo h => by subst h; exact ⟨rfl, rfl⟩
          have HMO := Lib.hid hmore; clear hmore
          by_cases hk3 : k = 3
          · have hkb : ((k : Int) == 3) = true := by rw [beq_iff_eq]; omega
            have hm := HMO.out (a (4 * r + 3)) (by rw [if_pos hk3])
            have HM := Lib.hid hm; clear hm hk3
            go_upto_region 11 with (fail)
            go_cut [10, 11] (fun s t wx => s = .int .i64 (entR a b r k) ∧ t = .int .i64 (entE a b r k) ∧ Ext wr wx)
            case first =>
              have hk_ := fun i v hv => (HT2.out.la.lies).at_ i v hv; have p0 := (hk_ 0 _ rfl).1; have p1 := (hk_ 1 _ rfl).1; have p2 := (hk_ 2 _ rfl).1; have p3 := (hk_ 3 _ rfl).1; have p4 := (hk_ 4 _ rfl).1; have p5 := (hk_ 5 _ rfl).1; have p6 := (hk_ 6 _ rfl).1; have p7 := (hk_ 7 _ rfl).1; have p8 := (hk_ 8 _ rfl).1; have p9 := (hk_ 9 _ rfl).1; have p10 := (hk_ 10 _ rfl).1; have p11 := (hk_ 11 _ rfl).1; clear hk_
              have hk_ := fun i v hv => (HT2.out.lb.lies).at_ i v hv; have q0 := (hk_ 0 _ rfl).1; have q1 := (hk_ 1 _ rfl).1; have q2 := (hk_ 2 _ rfl).1; have q3 := (hk_ 3 _ rfl).1; have q4 := (hk_ 4 _ rfl).1; have q5 := (hk_ 5 _ rfl).1; have q6 := (hk_ 6 _ rfl).1; have q7 := (hk_ 7 _ rfl).1; have q8 := (hk_ 8 _ rfl).1; have q9 := (hk_ 9 _ rfl).1; have q10 := (hk_ 10 _ rfl).1; have q11 := (hk_ 11 _ rfl).1; clear hk_
              go_region_with (first
                | (go_at_call 97; (refine (row_any a r _ hr3).mono ?_); rintro e v1 ⟨rfl, hx1⟩; have hxr1 : Ext wr v1 := (by (repeat (first | exact Ext.refl _ | assumption | (with_reducible refine Ext.alloc ?_ _) | (with_reducible refine Ext.drew ?_) | (with_reducible refine Ext.drewN ?_ _) | (refine Ext.trans ?_ (by assumption))))); have hk_ := fun i v hv => ((HT2.out.lb.ext hxr1).lies).at_ i v hv; have r0 := (hk_ 0 _ rfl).1; have r1 := (hk_ 1 _ rfl).1; have r2 := (hk_ 2 _ rfl).1; have r3 := (hk_ 3 _ rfl).1; have r4 := (hk_ 4 _ rfl).1; have r5 := (hk_ 5 _ rfl).1; have r6 := (hk_ 6 _ rfl).1; have r7 := (hk_ 7 _ rfl).1; have r8 := (hk_ 8 _ rfl).1; have r9 := (hk_ 9 _ rfl).1; have r10 := (hk_ 10 _ rfl).1; have r11 := (hk_ 11 _ rfl).1; clear hk_)
                | (go_at_call 119; (refine (column_any b k _ hk4).mono ?_); rintro e v2 ⟨rfl, hx2⟩; have hxr2 : Ext wr v2 := (by (repeat (first | exact Ext.refl _ | assumption | (with_reducible refine Ext.alloc ?_ _) | (with_reducible refine Ext.drew ?_) | (with_reducible refine Ext.drewN ?_ _) | (refine Ext.trans ?_ (by assumption))))); have hk_ := fun i v hv => ((HT2.out.la.ext hxr2).lies).at_ i v hv; have s0 := (hk_ 0 _ rfl).1; have s1 := (hk_ 1 _ rfl).1; have s2 := (hk_ 2 _ rfl).1; have s3 := (hk_ 3 _ rfl).1; have s4 := (hk_ 4 _ rfl).1; have s5 := (hk_ 5 _ rfl).1; have s6 := (hk_ 6 _ rfl).1; have s7 := (hk_ 7 _ rfl).1; have s8 := (hk_ 8 _ rfl).1; have s9 := (hk_ 9 _ rfl).1; have s10 := (hk_ 10 _ rfl).1; have s11 := (hk_ 11 _ rfl).1; clear hk_)
                | (go_at_call 96; (refine (product_any _ _ _ _ _ _ _ _).mono ?_); rintro e v3 ⟨rfl, hx3⟩))
              all_goals (go_wp2_with fail; go_simp; go_meet; exact ⟨by rw [HM.out.1], by rw [HM.out.2], by (repeat (first | exact Ext.refl _ | assumption | (with_reducible refine Ext.alloc ?_ _) | (with_reducible refine Ext.drew ?_) | (with_reducible refine Ext.drewN ?_ _) | (refine Ext.trans ?_ (by assumption))))⟩)
            case rest =>
              obtain ⟨rfl, rfl, hxc⟩ := hcut
              have HT3 := Lib.hid (HT2.out.next hxc)
              by_cases he : entE a b r k = 0
              · have hn1 := Lib.hid (firstE_next HF2.out (by rw [hat.out.2]; exact he))
                have hst := Lib.hid (HT3.out.set hl1 (by omega) (by omega) (by omega) (entR a b r k) hat.out.1)
                obtain ⟨o1, o2⟩ := HT3.out.row.at_ (4 * r + k) (by omega)
                go_wp2
                go_roundw
                case rel => exact ⟨k + 1, by omega, by go_num, hn1.out, hst.out⟩
                case measure => simp [intOf]; omega
              · have hE : Hid (twoE a b = entE a b r k) := by
                  show _ = _
                  unfold twoE
                  rw [firstE_hit HF2.out (by rw [hat.out.2]; exact he) (by omega), hat.out.2]
                have hR : Hid (∀ j, twoR a b j = 0) := by
                  show ∀ _, _
                  intro j
                  unfold twoR
                  rw [hE.out, if_neg he]
                have heb : (entE a b r k != 0) = true := by simpa using he
                have hk_ := fun i v hv => (HT3.out.res.lies).at_ i v hv; obtain ⟨g0, gf0⟩ := hk_ 0 _ rfl; obtain ⟨g1, gf1⟩ := hk_ 1 _ rfl; obtain ⟨g2, gf2⟩ := hk_ 2 _ rfl; obtain ⟨g3, gf3⟩ := hk_ 3 _ rfl; obtain ⟨g4, gf4⟩ := hk_ 4 _ rfl; obtain ⟨g5, gf5⟩ := hk_ 5 _ rfl; obtain ⟨g6, gf6⟩ := hk_ 6 _ rfl; obtain ⟨g7, gf7⟩ := hk_ 7 _ rfl; obtain ⟨g8, gf8⟩ := hk_ 8 _ rfl; obtain ⟨g9, gf9⟩ := hk_ 9 _ rfl; obtain ⟨g10, gf10⟩ := hk_ 10 _ rfl; obtain ⟨g11, gf11⟩ := hk_ 11 _ rfl; clear hk_
                clear he
                go_wp2
                clear g0 g1 g2 g3 g4 g5 g6 g7 g8 g9 g10 g11 gf0 gf1 gf2 gf3 gf4 gf5 gf6 gf7 gf8 gf9 gf10 gf11
                have HZ := Lib.hid (show RowZ ((((((((((((wc.setCell ⟨(w.heap.size + 1 + 1), 0, none⟩ (.int .i64 0)).setCell ⟨(w.heap.size + 1 + 1), 1, none⟩ (.int .i64 0)).setCell ⟨(w.heap.size + 1 + 1), 2, none⟩ (.int .i64 0)).setCell ⟨(w.heap.size + 1 + 1), 3, none⟩ (.int .i64 0)).setCell ⟨(w.heap.size + 1 + 1), 4, none⟩ (.int .i64 0)).setCell ⟨(w.heap.size + 1 + 1), 5, none⟩ (.int .i64 0)).setCell ⟨(w.heap.size + 1 + 1), 6, none⟩ (.int .i64 0)).setCell ⟨(w.heap.size + 1 + 1), 7, none⟩ (.int .i64 0)).setCell ⟨(w.heap.size + 1 + 1), 8, none⟩ (.int .i64 0)).setCell ⟨(w.heap.size + 1 + 1), 9, none⟩ (.int .i64 0)).setCell ⟨(w.heap.size + 1 + 1), 10, none⟩ (.int .i64 0)).setCell ⟨(w.heap.size + 1 + 1), 11, none⟩ (.int .i64 0)) (w.heap.size + 1 + 1) 49 12 zeroM from RowZ.all12 HT3.out.res zeroM)
                have HXZ := Lib.hid (show Ext _ ((((((((((((wc.setCell ⟨(w.heap.size + 1 + 1), 0, none⟩ (.int .i64 0)).setCell ⟨(w.heap.size + 1 + 1), 1, none⟩ (.int .i64 0)).setCell ⟨(w.heap.size + 1 + 1), 2, none⟩ (.int .i64 0)).setCell ⟨(w.heap.size + 1 + 1), 3, none⟩ (.int .i64 0)).setCell ⟨(w.heap.size + 1 + 1), 4, none⟩ (.int .i64 0)).setCell ⟨(w.heap.size + 1 + 1), 5, none⟩ (.int .i64 0)).setCell ⟨(w.heap.size + 1 + 1), 6, none⟩ (.int .i64 0)).setCell ⟨(w.heap.size + 1 + 1), 7, none⟩ (.int .i64 0)).setCell ⟨(w.heap.size + 1 + 1), 8, none⟩ (.int .i64 0)).setCell ⟨(w.heap.size + 1 + 1), 9, none⟩ (.int .i64 0)).setCell ⟨(w.heap.size + 1 + 1), 10, none⟩ (.int .i64 0)).setCell ⟨(w.heap.size + 1 + 1), 11, none⟩ (.int .i64 0)) from ext12 HT3.out.ext hl0 _ _ _ _ _ _ _ _ _ _ _ _)
                generalize ((((((((((((wc.setCell ⟨(w.heap.size + 1 + 1), 0, none⟩ (.int .i64 0)).setCell ⟨(w.heap.size + 1 + 1), 1, none⟩ (.int .i64 0)).setCell ⟨(w.heap.size + 1 + 1), 2, none⟩ (.int .i64 0)).setCell ⟨(w.heap.size + 1 + 1), 3, none⟩ (.int .i64 0)).setCell ⟨(w.heap.size + 1 + 1), 4, none⟩ (.int .i64 0)).setCell ⟨(w.heap.size + 1 + 1), 5, none⟩ (.int .i64 0)).setCell ⟨(w.heap.size + 1 + 1), 6, none⟩ (.int .i64 0)).setCell ⟨(w.heap.size + 1 + 1), 7, none⟩ (.int .i64 0)).setCell ⟨(w.heap.size + 1 + 1), 8, none⟩ (.int .i64 0)).setCell ⟨(w.heap.size + 1 + 1), 9, none⟩ (.int .i64 0)).setCell ⟨(w.heap.size + 1 + 1), 10, none⟩ (.int .i64 0)).setCell ⟨(w.heap.size + 1 + 1), 11, none⟩ (.int .i64 0)) = wz at *
                have k0 : wz.cell? ⟨(w.heap.size + 1 + 1), 0, none⟩ = some (.int .i64 0) := (HZ.out.at_ 0 (by decide)).1
                have k1 : wz.cell? ⟨(w.heap.size + 1 + 1), 1, none⟩ = some (.int .i64 0) := (HZ.out.at_ 1 (by decide)).1
                have k2 : wz.cell? ⟨(w.heap.size + 1 + 1), 2, none⟩ = some (.int .i64 0) := (HZ.out.at_ 2 (by decide)).1
                have k3 : wz.cell? ⟨(w.heap.size + 1 + 1), 3, none⟩ = some (.int .i64 0) := (HZ.out.at_ 3 (by decide)).1
                have k4 : wz.cell? ⟨(w.heap.size + 1 + 1), 4, none⟩ = some (.int .i64 0) := (HZ.out.at_ 4 (by decide)).1
                have k5 : wz.cell? ⟨(w.heap.size + 1 + 1), 5, none⟩ = some (.int .i64 0) := (HZ.out.at_ 5 (by decide)).1
                have k6 : wz.cell? ⟨(w.heap.size + 1 + 1), 6, none⟩ = some (.int .i64 0) := (HZ.out.at_ 6 (by decide)).1
                have k7 : wz.cell? ⟨(w.heap.size + 1 + 1), 7, none⟩ = some (.int .i64 0) := (HZ.out.at_ 7 (by decide)).1
                have k8 : wz.cell? ⟨(w.heap.size + 1 + 1), 8, none⟩ = some (.int .i64 0) := (HZ.out.at_ 8 (by decide)).1
                have k9 : wz.cell? ⟨(w.heap.size + 1 + 1), 9, none⟩ = some (.int .i64 0) := (HZ.out.at_ 9 (by decide)).1
                have k10 : wz.cell? ⟨(w.heap.size + 1 + 1), 10, none⟩ = some (.int .i64 0) := (HZ.out.at_ 10 (by decide)).1
                have k11 : wz.cell? ⟨(w.heap.size + 1 + 1), 11, none⟩ = some (.int .i64 0) := (HZ.out.at_ 11 (by decide)).1
                refine bodyPost_ret (v := .tuple #[.agg #[.int .i64 0, .int .i64 0, .int .i64 0, .int .i64 0, .int .i64 0, .int .i64 0, .int .i64 0, .int .i64 0, .int .i64 0, .int .i64 0, .int .i64 0, .int .i64 0], .int .i64 (entE a b r k)]) (by simp [results, Try.results94, go_sem, k0, k1, k2, k3, k4, k5, k6, k7, k8, k9, k10, k11]) rfl ⟨?_, HXZ.out⟩
                (simp only [hE.out, hR.out])
          · have hkb : ((k : Int) == 3) = false := by rw [beq_eq_false_iff_ne]; omega
            have hm := HMO.out 0 (by rw [if_neg hk3])
            have HM := Lib.hid hm; clear hm hk3 d0
            go_upto_region 11 with (fail)
            go_cut [10, 11] (fun s t wx => s = .int .i64 (entR a b r k) ∧ t = .int .i64 (entE a b r k) ∧ Ext wr wx)
            case first =>
              have hk_ := fun i v hv => (HT2.out.la.lies).at_ i v hv; have p0 := (hk_ 0 _ rfl).1; have p1 := (hk_ 1 _ rfl).1; have p2 := (hk_ 2 _ rfl).1; have p3 := (hk_ 3 _ rfl).1; have p4 := (hk_ 4 _ rfl).1; have p5 := (hk_ 5 _ rfl).1; have p6 := (hk_ 6 _ rfl).1; have p7 := (hk_ 7 _ rfl).1; have p8 := (hk_ 8 _ rfl).1; have p9 := (hk_ 9 _ rfl).1; have p10 := (hk_ 10 _ rfl).1; have p11 := (hk_ 11 _ rfl).1; clear hk_
              have hk_ := fun i v hv => (HT2.out.lb.lies).at_ i v hv; have q0 := (hk_ 0 _ rfl).1; have q1 := (hk_ 1 _ rfl).1; have q2 := (hk_ 2 _ rfl).1; have q3 := (hk_ 3 _ rfl).1; have q4 := (hk_ 4 _ rfl).1; have q5 := (hk_ 5 _ rfl).1; have q6 := (hk_ 6 _ rfl).1; have q7 := (hk_ 7 _ rfl).1; have q8 := (hk_ 8 _ rfl).1; have q9 := (hk_ 9 _ rfl).1; have q10 := (hk_ 10 _ rfl).1; have q11 := (hk_ 11 _ rfl).1; clear hk_
              go_region_with (first
                | (go_at_call 97; (refine (row_any a r _ hr3).mono ?_); rintro e v1 ⟨rfl, hx1⟩; have hxr1 : Ext wr v1 := (by (repeat (first | exact Ext.refl _ | assumption | (with_reducible refine Ext.alloc ?_ _) | (with_reducible refine Ext.drew ?_) | (with_reducible refine Ext.drewN ?_ _) | (refine Ext.trans ?_ (by assumption))))); have hk_ := fun i v hv => ((HT2.out.lb.ext hxr1).lies).at_ i v hv; have r0 := (hk_ 0 _ rfl).1; have r1 := (hk_ 1 _ rfl).1; have r2 := (hk_ 2 _ rfl).1; have r3 := (hk_ 3 _ rfl).1; have r4 := (hk_ 4 _ rfl).1; have r5 := (hk_ 5 _ rfl).1; have r6 := (hk_ 6 _ rfl).1; have r7 := (hk_ 7 _ rfl).1; have r8 := (hk_ 8 _ rfl).1; have r9 := (hk_ 9 _ rfl).1; have r10 := (hk_ 10 _ rfl).1; have r11 := (hk_ 11 _ rfl).1; clear hk_)
                | (go_at_call 119; (refine (column_any b k _ hk4).mono ?_); rintro e v2 ⟨rfl, hx2⟩; have hxr2 : Ext wr v2 := (by (repeat (first | exact Ext.refl _ | assumption | (with_reducible refine Ext.alloc ?_ _) | (with_reducible refine Ext.drew ?_) | (with_reducible refine Ext.drewN ?_ _) | (refine Ext.trans ?_ (by assumption))))); have hk_ := fun i v hv => ((HT2.out.la.ext hxr2).lies).at_ i v hv; have s0 := (hk_ 0 _ rfl).1; have s1 := (hk_ 1 _ rfl).1; have s2 := (hk_ 2 _ rfl).1; have s3 := (hk_ 3 _ rfl).1; have s4 := (hk_ 4 _ rfl).1; have s5 := (hk_ 5 _ rfl).1; have s6 := (hk_ 6 _ rfl).1; have s7 := (hk_ 7 _ rfl).1; have s8 := (hk_ 8 _ rfl).1; have s9 := (hk_ 9 _ rfl).1; have s10 := (hk_ 10 _ rfl).1; have s11 := (hk_ 11 _ rfl).1; clear hk_)
                | (go_at_call 96; (refine (product_any _ _ _ _ _ _ _ _).mono ?_); rintro e v3 ⟨rfl, hx3⟩))
              all_goals (go_wp2_with fail; go_simp; go_meet; exact ⟨by rw [HM.out.1], by rw [HM.out.2], by (repeat (first | exact Ext.refl _ | assumption | (with_reducible refine Ext.alloc ?_ _) | (with_reducible refine Ext.drew ?_) | (with_reducible refine Ext.drewN ?_ _) | (refine Ext.trans ?_ (by assumption))))⟩)
            case rest =>
              obtain ⟨rfl, rfl, hxc⟩ := hcut
              have HT3 := Lib.hid (HT2.out.next hxc)
              by_cases he : entE a b r k = 0
              · have hn1 := Lib.hid (firstE_next HF2.out (by rw [hat.out.2]; exact he))
                have hst := Lib.hid (HT3.out.set hl1 (by omega) (by omega) (by omega) (entR a b r k) hat.out.1)
                obtain ⟨o1, o2⟩ := HT3.out.row.at_ (4 * r + k) (by omega)
                go_wp2
                go_roundw
                case rel => exact ⟨k + 1, by omega, by go_num, hn1.out, hst.out⟩
                case measure => simp [intOf]; omega
              · have hE : Hid (twoE a b = entE a b r k) := by
                  show _ = _
                  unfold twoE
                  rw [firstE_hit HF2.out (by rw [hat.out.2]; exact he) (by omega), hat.out.2]
                have hR : Hid (∀ j, twoR a b j = 0) := by
                  show ∀ _, _
                  intro j
                  unfold twoR
                  rw [hE.out, if_neg he]
                have heb : (entE a b r k != 0) = true := by simpa using he
                have hk_ := fun i v hv => (HT3.out.res.lies).at_ i v hv; obtain ⟨g0, gf0⟩ := hk_ 0 _ rfl; obtain ⟨g1, gf1⟩ := hk_ 1 _ rfl; obtain ⟨g2, gf2⟩ := hk_ 2 _ rfl; obtain ⟨g3, gf3⟩ := hk_ 3 _ rfl; obtain ⟨g4, gf4⟩ := hk_ 4 _ rfl; obtain ⟨g5, gf5⟩ := hk_ 5 _ rfl; obtain ⟨g6, gf6⟩ := hk_ 6 _ rfl; obtain ⟨g7, gf7⟩ := hk_ 7 _ rfl; obtain ⟨g8, gf8⟩ := hk_ 8 _ rfl; obtain ⟨g9, gf9⟩ := hk_ 9 _ rfl; obtain ⟨g10, gf10⟩ := hk_ 10 _ rfl; obtain ⟨g11, gf11⟩ := hk_ 11 _ rfl; clear hk_
                clear he
                go_wp2
                clear g0 g1 g2 g3 g4 g5 g6 g7 g8 g9 g10 g11 gf0 gf1 gf2 gf3 gf4 gf5 gf6 gf7 gf8 gf9 gf10 gf11
                have HZ := Lib.hid (show RowZ ((((((((((((wc.setCell ⟨(w.heap.size + 1 + 1), 0, none⟩ (.int .i64 0)).setCell ⟨(w.heap.size + 1 + 1), 1, none⟩ (.int .i64 0)).setCell ⟨(w.heap.size + 1 + 1), 2, none⟩ (.int .i64 0)).setCell ⟨(w.heap.size + 1 + 1), 3, none⟩ (.int .i64 0)).setCell ⟨(w.heap.size + 1 + 1), 4, none⟩ (.int .i64 0)).setCell ⟨(w.heap.size + 1 + 1), 5, none⟩ (.int .i64 0)).setCell ⟨(w.heap.size + 1 + 1), 6, none⟩ (.int .i64 0)).setCell ⟨(w.heap.size + 1 + 1), 7, none⟩ (.int .i64 0)).setCell ⟨(w.heap.size + 1 + 1), 8, none⟩ (.int .i64 0)).setCell ⟨(w.heap.size + 1 + 1), 9, none⟩ (.int .i64 0)).setCell ⟨(w.heap.size + 1 + 1), 10, none⟩ (.int .i64 0)).setCell ⟨(w.heap.size + 1 + 1), 11, none⟩ (.int .i64 0)) (w.heap.size + 1 + 1) 49 12 zeroM from RowZ.all12 HT3.out.res zeroM)
                have HXZ := Lib.hid (show Ext _ ((((((((((((wc.setCell ⟨(w.heap.size + 1 + 1), 0, none⟩ (.int .i64 0)).setCell ⟨(w.heap.size + 1 + 1), 1, none⟩ (.int .i64 0)).setCell ⟨(w.heap.size + 1 + 1), 2, none⟩ (.int .i64 0)).setCell ⟨(w.heap.size + 1 + 1), 3, none⟩ (.int .i64 0)).setCell ⟨(w.heap.size + 1 + 1), 4, none⟩ (.int .i64 0)).setCell ⟨(w.heap.size + 1 + 1), 5, none⟩ (.int .i64 0)).setCell ⟨(w.heap.size + 1 + 1), 6, none⟩ (.int .i64 0)).setCell ⟨(w.heap.size + 1 + 1), 7, none⟩ (.int .i64 0)).setCell ⟨(w.heap.size + 1 + 1), 8, none⟩ (.int .i64 0)).setCell ⟨(w.heap.size + 1 + 1), 9, none⟩ (.int .i64 0)).setCell ⟨(w.heap.size + 1 + 1), 10, none⟩ (.int .i64 0)).setCell ⟨(w.heap.size + 1 + 1), 11, none⟩ (.int .i64 0)) from ext12 HT3.out.ext hl0 _ _ _ _ _ _ _ _ _ _ _ _)
                generalize ((((((((((((wc.setCell ⟨(w.heap.size + 1 + 1), 0, none⟩ (.int .i64 0)).setCell ⟨(w.heap.size + 1 + 1), 1, none⟩ (.int .i64 0)).setCell ⟨(w.heap.size + 1 + 1), 2, none⟩ (.int .i64 0)).setCell ⟨(w.heap.size + 1 + 1), 3, none⟩ (.int .i64 0)).setCell ⟨(w.heap.size + 1 + 1), 4, none⟩ (.int .i64 0)).setCell ⟨(w.heap.size + 1 + 1), 5, none⟩ (.int .i64 0)).setCell ⟨(w.heap.size + 1 + 1), 6, none⟩ (.int .i64 0)).setCell ⟨(w.heap.size + 1 + 1), 7, none⟩ (.int .i64 0)).setCell ⟨(w.heap.size + 1 + 1), 8, none⟩ (.int .i64 0)).setCell ⟨(w.heap.size + 1 + 1), 9, none⟩ (.int .i64 0)).setCell ⟨(w.heap.size + 1 + 1), 10, none⟩ (.int .i64 0)).setCell ⟨(w.heap.size + 1 + 1), 11, none⟩ (.int .i64 0)) = wz at *
                have k0 : wz.cell? ⟨(w.heap.size + 1 + 1), 0, none⟩ = some (.int .i64 0) := (HZ.out.at_ 0 (by decide)).1
                have k1 : wz.cell? ⟨(w.heap.size + 1 + 1), 1, none⟩ = some (.int .i64 0) := (HZ.out.at_ 1 (by decide)).1
                have k2 : wz.cell? ⟨(w.heap.size + 1 + 1), 2, none⟩ = some (.int .i64 0) := (HZ.out.at_ 2 (by decide)).1
                have k3 : wz.cell? ⟨(w.heap.size + 1 + 1), 3, none⟩ = some (.int .i64 0) := (HZ.out.at_ 3 (by decide)).1
                have k4 : wz.cell? ⟨(w.heap.size + 1 + 1), 4, none⟩ = some (.int .i64 0) := (HZ.out.at_ 4 (by decide)).1
                have k5 : wz.cell? ⟨(w.heap.size + 1 + 1), 5, none⟩ = some (.int .i64 0) := (HZ.out.at_ 5 (by decide)).1
                have k6 : wz.cell? ⟨(w.heap.size + 1 + 1), 6, none⟩ = some (.int .i64 0) := (HZ.out.at_ 6 (by decide)).1
                have k7 : wz.cell? ⟨(w.heap.size + 1 + 1), 7, none⟩ = some (.int .i64 0) := (HZ.out.at_ 7 (by decide)).1
                have k8 : wz.cell? ⟨(w.heap.size + 1 + 1), 8, none⟩ = some (.int .i64 0) := (HZ.out.at_ 8 (by decide)).1
                have k9 : wz.cell? ⟨(w.heap.size + 1 + 1), 9, none⟩ = some (.int .i64 0) := (HZ.out.at_ 9 (by decide)).1
                have k10 : wz.cell? ⟨(w.heap.size + 1 + 1), 10, none⟩ = some (.int .i64 0) := (HZ.out.at_ 10 (by decide)).1
                have k11 : wz.cell? ⟨(w.heap.size + 1 + 1), 11, none⟩ = some (.int .i64 0) := (HZ.out.at_ 11 (by decide)).1
                refine bodyPost_ret (v := .tuple #[.agg #[.int .i64 0, .int .i64 0, .int .i64 0, .int .i64 0, .int .i64 0, .int .i64 0, .int .i64 0, .int .i64 0, .int .i64 0, .int .i64 0, .int .i64 0, .int .i64 0], .int .i64 (entE a b r k)]) (by simp [results, Try.results94, go_sem, k0, k1, k2, k3, k4, k5, k6, k7, k8, k9, k10, k11]) rfl ⟨?_, HXZ.out⟩
                (simp only [hE.out, hR.out])
        · obtain rfl : 4 = k := by omega
          go_wp2
          go_roundw
          case rel => exact ⟨r + 1, by omega, by go_num, HF2.out, HT2.out⟩
          case measure => simp [intOf]; omega
    · obtain rfl : 3 = r := by omega
      have hE : Hid (twoE a b = 0) := HF.out
      have hR : Hid (∀ j, j < 12 → twoR a b j = doneV (entsR a b) 12 j) := by
        show ∀ j, j < 12 → _
        intro j hj
        unfold twoR doneV
        rw [if_pos hE.out, if_pos hj]
      have hv : Hid (∀ j, j < 12 → doneV (entsR a b) (4 * 3) j = twoR a b j) := fun j hj => (hR.out j hj).symm
      have hrow := HT.out.row
      have hlr : Lies wo (w.heap.size + 1 + 1 + 1) #[.int .i64 ((twoR a b) 0), .int .i64 ((twoR a b) 1), .int .i64 ((twoR a b) 2), .int .i64 ((twoR a b) 3), .int .i64 ((twoR a b) 4), .int .i64 ((twoR a b) 5), .int .i64 ((twoR a b) 6), .int .i64 ((twoR a b) 7), .int .i64 ((twoR a b) 8), .int .i64 ((twoR a b) 9), .int .i64 ((twoR a b) 10), .int .i64 ((twoR a b) 11)] 49 := by
        have h1 := hrow.lies
        rw [hv.out 0 (by decide), hv.out 1 (by decide), hv.out 2 (by decide), hv.out 3 (by decide), hv.out 4 (by decide), hv.out 5 (by decide), hv.out 6 (by decide), hv.out 7 (by decide), hv.out 8 (by decide), hv.out 9 (by decide), hv.out 10 (by decide), hv.out 11 (by decide)] at h1
        exact h1
      clear hrow
      have hk_ := fun i v hv => (HT.out.res.lies).at_ i v hv; obtain ⟨g0, gf0⟩ := hk_ 0 _ rfl; obtain ⟨g1, gf1⟩ := hk_ 1 _ rfl; obtain ⟨g2, gf2⟩ := hk_ 2 _ rfl; obtain ⟨g3, gf3⟩ := hk_ 3 _ rfl; obtain ⟨g4, gf4⟩ := hk_ 4 _ rfl; obtain ⟨g5, gf5⟩ := hk_ 5 _ rfl; obtain ⟨g6, gf6⟩ := hk_ 6 _ rfl; obtain ⟨g7, gf7⟩ := hk_ 7 _ rfl; obtain ⟨g8, gf8⟩ := hk_ 8 _ rfl; obtain ⟨g9, gf9⟩ := hk_ 9 _ rfl; obtain ⟨g10, gf10⟩ := hk_ 10 _ rfl; obtain ⟨g11, gf11⟩ := hk_ 11 _ rfl; clear hk_
      have hk_ := fun i v hv => (hlr).at_ i v hv; have p0 := (hk_ 0 _ rfl).1; have p1 := (hk_ 1 _ rfl).1; have p2 := (hk_ 2 _ rfl).1; have p3 := (hk_ 3 _ rfl).1; have p4 := (hk_ 4 _ rfl).1; have p5 := (hk_ 5 _ rfl).1; have p6 := (hk_ 6 _ rfl).1; have p7 := (hk_ 7 _ rfl).1; have p8 := (hk_ 8 _ rfl).1; have p9 := (hk_ 9 _ rfl).1; have p10 := (hk_ 10 _ rfl).1; have p11 := (hk_ 11 _ rfl).1; clear hk_
      clear hlr
      go_wp2
      clear g0 g1 g2 g3 g4 g5 g6 g7 g8 g9 g10 g11 gf0 gf1 gf2 gf3 gf4 gf5 gf6 gf7 gf8 gf9 gf10 gf11 p0 p1 p2 p3 p4 p5 p6 p7 p8 p9 p10 p11
      have HZ := Lib.hid (show RowZ ((((((((((((wo.setCell ⟨(w.heap.size + 1 + 1), 0, none⟩ (.int .i64 ((twoR a b) 0))).setCell ⟨(w.heap.size + 1 + 1), 1, none⟩ (.int .i64 ((twoR a b) 1))).setCell ⟨(w.heap.size + 1 + 1), 2, none⟩ (.int .i64 ((twoR a b) 2))).setCell ⟨(w.heap.size + 1 + 1), 3, none⟩ (.int .i64 ((twoR a b) 3))).setCell ⟨(w.heap.size + 1 + 1), 4, none⟩ (.int .i64 ((twoR a b) 4))).setCell ⟨(w.heap.size + 1 + 1), 5, none⟩ (.int .i64 ((twoR a b) 5))).setCell ⟨(w.heap.size + 1 + 1), 6, none⟩ (.int .i64 ((twoR a b) 6))).setCell ⟨(w.heap.size + 1 + 1), 7, none⟩ (.int .i64 ((twoR a b) 7))).setCell ⟨(w.heap.size + 1 + 1), 8, none⟩ (.int .i64 ((twoR a b) 8))).setCell ⟨(w.heap.size + 1 + 1), 9, none⟩ (.int .i64 ((twoR a b) 9))).setCell ⟨(w.heap.size + 1 + 1), 10, none⟩ (.int .i64 ((twoR a b) 10))).setCell ⟨(w.heap.size + 1 + 1), 11, none⟩ (.int .i64 ((twoR a b) 11))) (w.heap.size + 1 + 1) 49 12 (twoR a b) from RowZ.all12 HT.out.res (twoR a b))
      have HXZ := Lib.hid (show Ext _ ((((((((((((wo.setCell ⟨(w.heap.size + 1 + 1), 0, none⟩ (.int .i64 ((twoR a b) 0))).setCell ⟨(w.heap.size + 1 + 1), 1, none⟩ (.int .i64 ((twoR a b) 1))).setCell ⟨(w.heap.size + 1 + 1), 2, none⟩ (.int .i64 ((twoR a b) 2))).setCell ⟨(w.heap.size + 1 + 1), 3, none⟩ (.int .i64 ((twoR a b) 3))).setCell ⟨(w.heap.size + 1 + 1), 4, none⟩ (.int .i64 ((twoR a b) 4))).setCell ⟨(w.heap.size + 1 + 1), 5, none⟩ (.int .i64 ((twoR a b) 5))).setCell ⟨(w.heap.size + 1 + 1), 6, none⟩ (.int .i64 ((twoR a b) 6))).setCell ⟨(w.heap.size + 1 + 1), 7, none⟩ (.int .i64 ((twoR a b) 7))).setCell ⟨(w.heap.size + 1 + 1), 8, none⟩ (.int .i64 ((twoR a b) 8))).setCell ⟨(w.heap.size + 1 + 1), 9, none⟩ (.int .i64 ((twoR a b) 9))).setCell ⟨(w.heap.size + 1 + 1), 10, none⟩ (.int .i64 ((twoR a b) 10))).setCell ⟨(w.heap.size + 1 + 1), 11, none⟩ (.int .i64 ((twoR a b) 11))) from ext12 HT.out.ext hl0 _ _ _ _ _ _ _ _ _ _ _ _)
      generalize ((((((((((((wo.setCell ⟨(w.heap.size + 1 + 1), 0, none⟩ (.int .i64 ((twoR a b) 0))).setCell ⟨(w.heap.size + 1 + 1), 1, none⟩ (.int .i64 ((twoR a b) 1))).setCell ⟨(w.heap.size + 1 + 1), 2, none⟩ (.int .i64 ((twoR a b) 2))).setCell ⟨(w.heap.size + 1 + 1), 3, none⟩ (.int .i64 ((twoR a b) 3))).setCell ⟨(w.heap.size + 1 + 1), 4, none⟩ (.int .i64 ((twoR a b) 4))).setCell ⟨(w.heap.size + 1 + 1), 5, none⟩ (.int .i64 ((twoR a b) 5))).setCell ⟨(w.heap.size + 1 + 1), 6, none⟩ (.int .i64 ((twoR a b) 6))).setCell ⟨(w.heap.size + 1 + 1), 7, none⟩ (.int .i64 ((twoR a b) 7))).setCell ⟨(w.heap.size + 1 + 1), 8, none⟩ (.int .i64 ((twoR a b) 8))).setCell ⟨(w.heap.size + 1 + 1), 9, none⟩ (.int .i64 ((twoR a b) 9))).setCell ⟨(w.heap.size + 1 + 1), 10, none⟩ (.int .i64 ((twoR a b) 10))).setCell ⟨(w.heap.size + 1 + 1), 11, none⟩ (.int .i64 ((twoR a b) 11))) = wz at *
      have k0 : wz.cell? ⟨(w.heap.size + 1 + 1), 0, none⟩ = some (.int .i64 ((twoR a b) 0)) := (HZ.out.at_ 0 (by decide)).1
      have k1 : wz.cell? ⟨(w.heap.size + 1 + 1), 1, none⟩ = some (.int .i64 ((twoR a b) 1)) := (HZ.out.at_ 1 (by decide)).1
      have k2 : wz.cell? ⟨(w.heap.size + 1 + 1), 2, none⟩ = some (.int .i64 ((twoR a b) 2)) := (HZ.out.at_ 2 (by decide)).1
      have k3 : wz.cell? ⟨(w.heap.size + 1 + 1), 3, none⟩ = some (.int .i64 ((twoR a b) 3)) := (HZ.out.at_ 3 (by decide)).1
      have k4 : wz.cell? ⟨(w.heap.size + 1 + 1), 4, none⟩ = some (.int .i64 ((twoR a b) 4)) := (HZ.out.at_ 4 (by decide)).1
      have k5 : wz.cell? ⟨(w.heap.size + 1 + 1), 5, none⟩ = some (.int .i64 ((twoR a b) 5)) := (HZ.out.at_ 5 (by decide)).1
      have k6 : wz.cell? ⟨(w.heap.size + 1 + 1), 6, none⟩ = some (.int .i64 ((twoR a b) 6)) := (HZ.out.at_ 6 (by decide)).1
      have k7 : wz.cell? ⟨(w.heap.size + 1 + 1), 7, none⟩ = some (.int .i64 ((twoR a b) 7)) := (HZ.out.at_ 7 (by decide)).1
      have k8 : wz.cell? ⟨(w.heap.size + 1 + 1), 8, none⟩ = some (.int .i64 ((twoR a b) 8)) := (HZ.out.at_ 8 (by decide)).1
      have k9 : wz.cell? ⟨(w.heap.size + 1 + 1), 9, none⟩ = some (.int .i64 ((twoR a b) 9)) := (HZ.out.at_ 9 (by decide)).1
      have k10 : wz.cell? ⟨(w.heap.size + 1 + 1), 10, none⟩ = some (.int .i64 ((twoR a b) 10)) := (HZ.out.at_ 10 (by decide)).1
      have k11 : wz.cell? ⟨(w.heap.size + 1 + 1), 11, none⟩ = some (.int .i64 ((twoR a b) 11)) := (HZ.out.at_ 11 (by decide)).1
      refine bodyPost_ret (v := .tuple #[.agg #[.int .i64 ((twoR a b) 0), .int .i64 ((twoR a b) 1), .int .i64 ((twoR a b) 2), .int .i64 ((twoR a b) 3), .int .i64 ((twoR a b) 4), .int .i64 ((twoR a b) 5), .int .i64 ((twoR a b) 6), .int .i64 ((twoR a b) 7), .int .i64 ((twoR a b) 8), .int .i64 ((twoR a b) 9), .int .i64 ((twoR a b) 10), .int .i64 ((twoR a b) 11)], .int .i64 0]) (by simp [results, Try.results94, go_sem, k0, k1, k2, k3, k4, k5, k6, k7, k8, k9, k10, k11]) rfl ⟨?_, HXZ.out⟩
      (rw [hE.out])
end Go.Proofs.Ytmgckodihnmjoaa
