/-
  The reference of layer 3: the product of any matrices; walked. Conditions: the slice lies in memory.
-/
import Derived.Test.YtmgckodihnmjoaaRef03e
set_option linter.unusedVariables false
set_option linter.unusedSimpArgs false
namespace Go.Proofs.Ytmgckodihnmjoaa
open Go.RowKit

theorem firstE_all {E : Nat → Int} {n : Nat} (h : firstE E n = 0) : ∀ i, i < n → E i = 0 := by
  induction n with
  | zero => intro i hi; omega
  | succ n ih =>
    unfold firstE at h
    by_cases h1 : firstE E n = 0
    · rw [if_pos h1] at h
      intro i hi
      rcases Nat.lt_or_ge i n with h2 | h2
      · exact ih h1 i h2
      · obtain rfl : i = n := by omega
        exact h
    · rw [if_neg h1] at h; exact absurd h h1
theorem add_in {xs : List Int} (h : addE xs = 0) : inB (addR xs) = true := by
  unfold addE at h; unfold addR
  cases hb : addB xs
  · rw [hb] at h; simp at h
  · rw [hb, if_pos rfl] at h
    rw [if_pos rfl]
    cases hi : inB (sumTo xs xs.length)
    · rw [outE_f hi] at h; simp at h
    · rw [outR_t hi]; exact hi
theorem prod_in {x y z x' y' z' m : Int} (h : prodE x y z x' y' z' m = 0) : inB (prodR x y z x' y' z' m) = true := by
  unfold prodE at h; unfold prodR
  by_cases hd : dotM x y z x' y' z' = 0
  · rw [if_pos hd] at h ⊢; exact add_in h
  · rw [if_neg hd] at h; exact absurd h hd
theorem two_in {a b : Nat → Int} (h : twoE a b = 0) : matB (twoR a b) = true := by
  have h1 := firstE_all h
  have h2 : ∀ j, j < 12 → inB (twoR a b j) = true := fun j hj => by
    unfold twoR; rw [if_pos h]
    exact prod_in (h1 j hj)
  simp [matB, rightL, matL, h2]
theorem mats_at {f : Nat → Nat → Int} {n : Nat} (h : matsB f n = true) (k : Nat) (hk : k < n) : matB (f k) = true := (allN_iff _ _).1 h k hk
theorem foldE_pre {f : Nat → Nat → Int} {k : Nat} (h : foldE f (k + 1) = 0) : foldE f k = 0 ∧ twoE (foldR f k) (f (k + 1)) = 0 := by
  have e : foldE f (k + 1) = if foldE f k = 0 then twoE (foldR f k) (f (k + 1)) else foldE f k := rfl
  rw [e] at h
  by_cases h1 : foldE f k = 0
  · rw [if_pos h1] at h; exact ⟨h1, h⟩
  · rw [if_neg h1] at h; exact absurd h h1
theorem fold_in {f : Nat → Nat → Int} {n : Nat} (h : matsB f n = true) (k : Nat) (hk : k < n) (he : foldE f k = 0) : matB (foldR f k) = true := by
  cases k with
  | zero => exact mats_at h 0 hk
  | succ k => exact two_in (foldE_pre he).2
theorem fold_step {f : Nat → Nat → Int} {n : Nat} (h : matsB f n = true) (k : Nat) (hk : k + 1 < n) (he : foldE f k = 0) : rtwoE (foldR f k) (f (k + 1)) = twoE (foldR f k) (f (k + 1)) ∧ rtwoR (foldR f k) (f (k + 1)) = twoR (foldR f k) (f (k + 1)) := by
  have hb : rtwoB (foldR f k) (f (k + 1)) = true := by simp [rtwoB, fold_in h k (by omega) he, mats_at h (k + 1) hk]
  exact ⟨by unfold rtwoE; rw [if_pos hb], by funext j; unfold rtwoR; rw [if_pos hb]⟩
/-- A whole struct or array is read, wherever it lies. -/
theorem run_loadAt_any {P : Program} (w : World) (p : Addr) (ty : TypeId) (cs : List Value) (d : TypeDesc) (hc : ∀ j v, cs[j]? = some v → w.cell? (p.add j) = some v)
    (hu : P.underlying ty = some d) (hd : d.isRow = true) (hi : (P.info? ty).map (·.size) = some cs.length) :
    (Instr.loadAt ty (.pointer (some p))).run P w = .ok (.agg cs.toArray) w := by
  have hl : (loadCells p cs.length).run P w = .ok cs.toArray w := run_loadCells_list (P := P) w p cs hc
  have hv : (loadVar ty p).run P w = .ok (.agg cs.toArray) w := by
    cases hq : P.info? ty with
    | none => simp [hq] at hi
    | some i =>
      have hs : i.size = cs.length := by simpa [hq] using hi
      have hagg : (isAgg ty).run P w = .ok true w := by
        unfold isAgg
        rw [Sem.run_bind, run_underlying hu w]
        cases d <;> simp_all
      simp [loadVar, Sem.run_bind, hagg, sizeOf, typeInfo, hq, hs, hl]
  simp only [Instr.loadAt, Instr.sureAddr, Sem.run_bind, Sem.run_pure, Result.andThen_ok, hv]
theorem rowL_get {v : Nat → Int} {n j : Nat} {u : Value} (h : (rowL v n)[j]? = some u) : j < n ∧ u = .int .i64 (v j) := by
  unfold rowL at h
  rw [List.getElem?_map] at h
  obtain ⟨i, hi, rfl⟩ := Option.map_eq_some_iff.1 h
  obtain ⟨hj, h2⟩ := List.getElem?_eq_some_iff.1 hi
  simp only [List.getElem_range] at h2
  subst h2
  exact ⟨by simpa using hj, rfl⟩
theorem rowL_len (v : Nat → Int) (n : Nat) : (rowL v n).length = n := by simp [rowL]
theorem info_M : (Try.prog.info? 49).map (·.size) = some 12 := by kernel_rfl
theorem load_elM {w : World} {ad : Addr} {i : Nat} {f : Nat → Int} (h : ∀ j, j < 12 → w.cell? (ad.add (i * 12 + j)) = some (.int .i64 (f j))) :
    (Instr.loadAt 49 (.pointer (some (ad.add (i * 12))))).run Try.prog w = .ok (.agg #[.int .i64 (f 0), .int .i64 (f 1), .int .i64 (f 2), .int .i64 (f 3), .int .i64 (f 4), .int .i64 (f 5), .int .i64 (f 6), .int .i64 (f 7), .int .i64 (f 8), .int .i64 (f 9), .int .i64 (f 10), .int .i64 (f 11)]) w :=
  run_loadAt_any w _ _ (rowL f 12) _ (fun j v hv => by obtain ⟨h1, rfl⟩ := rowL_get hv; rw [add_twice]; exact h j h1) Try.underlying49 rfl (by rw [info_M, rowL_len])
theorem el_cells {m : Nat} {w w1 : World} {ad : Addr} {i : Nat} {f : Nat → Int} (h : ∀ j, j < m → w.cell? (ad.add (i * m + j)) = some (.int .i64 (f j))) (hx : Ext w w1) (h0 : 0 < m) :
    (∀ W', Ext w1 W' → W'.cell? (ad.add (i * m)) = some (.int .i64 (f 0))) ∧ (∀ W', Ext w1 W' → ∀ j, 1 ≤ j → j < m → W'.cell? ⟨(ad.add (i * m)).block, (ad.add (i * m)).off + j, none⟩ = some (.int .i64 (f j))) := by
  refine ⟨fun W' hw => el_0 ((hx.trans hw).cell (h 0 h0)), fun W' hw j h1 hj => ?_⟩
  cases j with
  | zero => omega
  | succ j => exact el_s ((hx.trans hw).cell (h (j + 1) hj))
theorem load_rowM {w : World} {g : Nat} {f : Nat → Int} {e : Nat} (h : RowZ w g e 12 f) :
    (Instr.loadAt 49 (.pointer (some ⟨g, 0, none⟩))).run Try.prog w = .ok (.agg #[.int .i64 (f 0), .int .i64 (f 1), .int .i64 (f 2), .int .i64 (f 3), .int .i64 (f 4), .int .i64 (f 5), .int .i64 (f 6), .int .i64 (f 7), .int .i64 (f 8), .int .i64 (f 9), .int .i64 (f 10), .int .i64 (f 11)]) w :=
  run_loadAt_any w _ _ (rowL f 12) _ (fun j v hv => by obtain ⟨h1, rfl⟩ := rowL_get hv; rw [off_add, Nat.zero_add]; exact (h.at_ j h1).1) Try.underlying49 rfl (by rw [info_M, rowL_len])
set_option maxRecDepth 20000 in
set_option maxHeartbeats 8000000 in
theorem rmmul_any (A : Option Addr) (c n : Nat) (f : Nat → Nat → Int) (w : World) (h : RdM 12 w A n f) : Calls Try.prog 33 #[.slice A n c] w (RetM w (mulME f n) (mulMR f n)) := by
  have hl0 : w.heap.size ≤ w.heap.size := by omega
  have hlen := h.1
  have H := Lib.hid h; clear h
  have hres : Hid (RowZ (w.alloc (.cells #[.int .i64 0, .int .i64 0, .int .i64 0, .int .i64 0, .int .i64 0, .int .i64 0, .int .i64 0, .int .i64 0, .int .i64 0, .int .i64 0, .int .i64 0, .int .i64 0] 49)) w.heap.size 49 12 zeroM) := row12 (v := zeroM) (Lies.new w #[.int .i64 (zeroM 0), .int .i64 (zeroM 1), .int .i64 (zeroM 2), .int .i64 (zeroM 3), .int .i64 (zeroM 4), .int .i64 (zeroM 5), .int .i64 (zeroM 6), .int .i64 (zeroM 7), .int .i64 (zeroM 8), .int .i64 (zeroM 9), .int .i64 (zeroM 10), .int .i64 (zeroM 11)] 49 _ rfl)
  have HX1 := Lib.hid (show Ext w (w.alloc (.cells #[.int .i64 0, .int .i64 0, .int .i64 0, .int .i64 0, .int .i64 0, .int .i64 0, .int .i64 0, .int .i64 0, .int .i64 0, .int .i64 0, .int .i64 0, .int .i64 0] 49)) from (Ext.refl _).alloc _)
  go_enter Try.func33, Try.ntmps33
  go_wp2
  generalize hw1 : (w.alloc (.cells #[.int .i64 0, .int .i64 0, .int .i64 0, .int .i64 0, .int .i64 0, .int .i64 0, .int .i64 0, .int .i64 0, .int .i64 0, .int .i64 0, .int .i64 0, .int .i64 0] 49)) = w1 at *
  clear hw1
  go_loopw [3, 4, 5] (fun _ i _ wr => ∃ k : Nat, k ≤ n ∧ i = .int .i64 k ∧ AllTo (fun i => matB (f i)) k ∧ Ext w1 wr) (fun _ i _ _ => n - (intOf i).toNat)
  case atStart => exact ⟨0, by omega, rfl, allTo_zero _, Ext.refl _⟩
  case round =>
    obtain ⟨k, hk, rfl, hal, hx⟩ := hrel
    have HAL := Lib.hid hal; have HXR := Lib.hid hx; clear hal hx
    by_cases hlt : k < n
    · obtain ⟨ad, rfl, hc0⟩ := H.out.2 k hlt
      obtain ⟨he0, he1⟩ := el_cells hc0 HX1.out (by decide)
      have hxr := HXR.out
      clear hc0
      cases hb : matB (f k)
      · have hE : Hid (mulME f n = 1 ∧ ∀ j, mulMR f n j = 0) := by
          have : matsB f n = false := allN_false hlt hb
          exact ⟨by simp [mulME, this], fun j => by simp [mulMR, this]⟩
        go_wp2_with (go_at_call 31; (with_reducible refine (rmright_any (f k) _).mono ?_); rintro e v1 ⟨rfl, hx1⟩; rw [hb]; have hk_ := fun i v hv => (((hres.out.ext HXR.out).ext hx1).lies).at_ i v hv; obtain ⟨g0, gf0⟩ := hk_ 0 _ rfl; obtain ⟨g1, gf1⟩ := hk_ 1 _ rfl; obtain ⟨g2, gf2⟩ := hk_ 2 _ rfl; obtain ⟨g3, gf3⟩ := hk_ 3 _ rfl; obtain ⟨g4, gf4⟩ := hk_ 4 _ rfl; obtain ⟨g5, gf5⟩ := hk_ 5 _ rfl; obtain ⟨g6, gf6⟩ := hk_ 6 _ rfl; obtain ⟨g7, gf7⟩ := hk_ 7 _ rfl; obtain ⟨g8, gf8⟩ := hk_ 8 _ rfl; obtain ⟨g9, gf9⟩ := hk_ 9 _ rfl; obtain ⟨g10, gf10⟩ := hk_ 10 _ rfl; obtain ⟨g11, gf11⟩ := hk_ 11 _ rfl; clear hk_)
        clear g0 g1 g2 g3 g4 g5 g6 g7 g8 g9 g10 g11 gf0 gf1 gf2 gf3 gf4 gf5 gf6 gf7 gf8 gf9 gf10 gf11
        have HZ := Lib.hid (show RowZ ((((((((((((v1.setCell ⟨w.heap.size, 0, none⟩ (.int .i64 0)).setCell ⟨w.heap.size, 1, none⟩ (.int .i64 0)).setCell ⟨w.heap.size, 2, none⟩ (.int .i64 0)).setCell ⟨w.heap.size, 3, none⟩ (.int .i64 0)).setCell ⟨w.heap.size, 4, none⟩ (.int .i64 0)).setCell ⟨w.heap.size, 5, none⟩ (.int .i64 0)).setCell ⟨w.heap.size, 6, none⟩ (.int .i64 0)).setCell ⟨w.heap.size, 7, none⟩ (.int .i64 0)).setCell ⟨w.heap.size, 8, none⟩ (.int .i64 0)).setCell ⟨w.heap.size, 9, none⟩ (.int .i64 0)).setCell ⟨w.heap.size, 10, none⟩ (.int .i64 0)).setCell ⟨w.heap.size, 11, none⟩ (.int .i64 0)) w.heap.size 49 12 zeroM from RowZ.all12 ((hres.out.ext HXR.out).ext hx1) zeroM)
        have HXZ := Lib.hid (show Ext _ ((((((((((((v1.setCell ⟨w.heap.size, 0, none⟩ (.int .i64 0)).setCell ⟨w.heap.size, 1, none⟩ (.int .i64 0)).setCell ⟨w.heap.size, 2, none⟩ (.int .i64 0)).setCell ⟨w.heap.size, 3, none⟩ (.int .i64 0)).setCell ⟨w.heap.size, 4, none⟩ (.int .i64 0)).setCell ⟨w.heap.size, 5, none⟩ (.int .i64 0)).setCell ⟨w.heap.size, 6, none⟩ (.int .i64 0)).setCell ⟨w.heap.size, 7, none⟩ (.int .i64 0)).setCell ⟨w.heap.size, 8, none⟩ (.int .i64 0)).setCell ⟨w.heap.size, 9, none⟩ (.int .i64 0)).setCell ⟨w.heap.size, 10, none⟩ (.int .i64 0)).setCell ⟨w.heap.size, 11, none⟩ (.int .i64 0)) from ext12 ((HX1.out.trans HXR.out).trans hx1) hl0 _ _ _ _ _ _ _ _ _ _ _ _)
        generalize ((((((((((((v1.setCell ⟨w.heap.size, 0, none⟩ (.int .i64 0)).setCell ⟨w.heap.size, 1, none⟩ (.int .i64 0)).setCell ⟨w.heap.size, 2, none⟩ (.int .i64 0)).setCell ⟨w.heap.size, 3, none⟩ (.int .i64 0)).setCell ⟨w.heap.size, 4, none⟩ (.int .i64 0)).setCell ⟨w.heap.size, 5, none⟩ (.int .i64 0)).setCell ⟨w.heap.size, 6, none⟩ (.int .i64 0)).setCell ⟨w.heap.size, 7, none⟩ (.int .i64 0)).setCell ⟨w.heap.size, 8, none⟩ (.int .i64 0)).setCell ⟨w.heap.size, 9, none⟩ (.int .i64 0)).setCell ⟨w.heap.size, 10, none⟩ (.int .i64 0)).setCell ⟨w.heap.size, 11, none⟩ (.int .i64 0)) = wz at *
        have k0 : wz.cell? ⟨w.heap.size, 0, none⟩ = some (.int .i64 0) := (HZ.out.at_ 0 (by decide)).1
        have k1 : wz.cell? ⟨w.heap.size, 1, none⟩ = some (.int .i64 0) := (HZ.out.at_ 1 (by decide)).1
        have k2 : wz.cell? ⟨w.heap.size, 2, none⟩ = some (.int .i64 0) := (HZ.out.at_ 2 (by decide)).1
        have k3 : wz.cell? ⟨w.heap.size, 3, none⟩ = some (.int .i64 0) := (HZ.out.at_ 3 (by decide)).1
        have k4 : wz.cell? ⟨w.heap.size, 4, none⟩ = some (.int .i64 0) := (HZ.out.at_ 4 (by decide)).1
        have k5 : wz.cell? ⟨w.heap.size, 5, none⟩ = some (.int .i64 0) := (HZ.out.at_ 5 (by decide)).1
        have k6 : wz.cell? ⟨w.heap.size, 6, none⟩ = some (.int .i64 0) := (HZ.out.at_ 6 (by decide)).1
        have k7 : wz.cell? ⟨w.heap.size, 7, none⟩ = some (.int .i64 0) := (HZ.out.at_ 7 (by decide)).1
        have k8 : wz.cell? ⟨w.heap.size, 8, none⟩ = some (.int .i64 0) := (HZ.out.at_ 8 (by decide)).1
        have k9 : wz.cell? ⟨w.heap.size, 9, none⟩ = some (.int .i64 0) := (HZ.out.at_ 9 (by decide)).1
        have k10 : wz.cell? ⟨w.heap.size, 10, none⟩ = some (.int .i64 0) := (HZ.out.at_ 10 (by decide)).1
        have k11 : wz.cell? ⟨w.heap.size, 11, none⟩ = some (.int .i64 0) := (HZ.out.at_ 11 (by decide)).1
        refine bodyPost_ret (v := .tuple #[.agg #[.int .i64 0, .int .i64 0, .int .i64 0, .int .i64 0, .int .i64 0, .int .i64 0, .int .i64 0, .int .i64 0, .int .i64 0, .int .i64 0, .int .i64 0, .int .i64 0], .int .i64 1]) (by simp [results, Try.results33, go_sem, k0, k1, k2, k3, k4, k5, k6, k7, k8, k9, k10, k11]) rfl ⟨?_, HXZ.out⟩
        (simp only [hE.out.1, hE.out.2])
      · go_wp2_with (go_at_call 31; (with_reducible refine (rmright_any (f k) _).mono ?_); rintro e v1 ⟨rfl, hx1⟩; rw [hb])
        go_roundw
        case rel => exact ⟨k + 1, by omega, by go_num, allTo_succ HAL.out hb, HXR.out.trans hx1⟩
        case measure => simp [intOf]; omega
    · obtain rfl : n = k := by omega
      have HV := Lib.hid (show matsB f n = true from allN_true HAL.out)
      obtain rfl | hn : n = 0 ∨ 1 ≤ n := by omega
      · have hE : Hid (mulME f 0 = 0 ∧ ∀ j, mulMR f 0 j = diagV 65536 65536 65536 j) := ⟨by simp [mulME, HV.out], fun j => by simp [mulMR, HV.out]⟩
        go_wp2_with (go_at_call 39; (with_reducible refine (rmsame_any _).mono ?_); rintro e w2 ⟨rfl, hx2⟩; have hk_ := fun i v hv => (((hres.out.ext HXR.out).ext hx2).lies).at_ i v hv; obtain ⟨g0, gf0⟩ := hk_ 0 _ rfl; obtain ⟨g1, gf1⟩ := hk_ 1 _ rfl; obtain ⟨g2, gf2⟩ := hk_ 2 _ rfl; obtain ⟨g3, gf3⟩ := hk_ 3 _ rfl; obtain ⟨g4, gf4⟩ := hk_ 4 _ rfl; obtain ⟨g5, gf5⟩ := hk_ 5 _ rfl; obtain ⟨g6, gf6⟩ := hk_ 6 _ rfl; obtain ⟨g7, gf7⟩ := hk_ 7 _ rfl; obtain ⟨g8, gf8⟩ := hk_ 8 _ rfl; obtain ⟨g9, gf9⟩ := hk_ 9 _ rfl; obtain ⟨g10, gf10⟩ := hk_ 10 _ rfl; obtain ⟨g11, gf11⟩ := hk_ 11 _ rfl; clear hk_)
        clear g0 g1 g2 g3 g4 g5 g6 g7 g8 g9 g10 g11 gf0 gf1 gf2 gf3 gf4 gf5 gf6 gf7 gf8 gf9 gf10 gf11
        have HZ := Lib.hid (show RowZ ((((((((((((w2.setCell ⟨w.heap.size, 0, none⟩ (.int .i64 ((diagV 65536 65536 65536) 0))).setCell ⟨w.heap.size, 1, none⟩ (.int .i64 ((diagV 65536 65536 65536) 1))).setCell ⟨w.heap.size, 2, none⟩ (.int .i64 ((diagV 65536 65536 65536) 2))).setCell ⟨w.heap.size, 3, none⟩ (.int .i64 ((diagV 65536 65536 65536) 3))).setCell ⟨w.heap.size, 4, none⟩ (.int .i64 ((diagV 65536 65536 65536) 4))).setCell ⟨w.heap.size, 5, none⟩ (.int .i64 ((diagV 65536 65536 65536) 5))).setCell ⟨w.heap.size, 6, none⟩ (.int .i64 ((diagV 65536 65536 65536) 6))).setCell ⟨w.heap.size, 7, none⟩ (.int .i64 ((diagV 65536 65536 65536) 7))).setCell ⟨w.heap.size, 8, none⟩ (.int .i64 ((diagV 65536 65536 65536) 8))).setCell ⟨w.heap.size, 9, none⟩ (.int .i64 ((diagV 65536 65536 65536) 9))).setCell ⟨w.heap.size, 10, none⟩ (.int .i64 ((diagV 65536 65536 65536) 10))).setCell ⟨w.heap.size, 11, none⟩ (.int .i64 ((diagV 65536 65536 65536) 11))) w.heap.size 49 12 (diagV 65536 65536 65536) from RowZ.all12 ((hres.out.ext HXR.out).ext hx2) (diagV 65536 65536 65536))
        have HXZ := Lib.hid (show Ext _ ((((((((((((w2.setCell ⟨w.heap.size, 0, none⟩ (.int .i64 ((diagV 65536 65536 65536) 0))).setCell ⟨w.heap.size, 1, none⟩ (.int .i64 ((diagV 65536 65536 65536) 1))).setCell ⟨w.heap.size, 2, none⟩ (.int .i64 ((diagV 65536 65536 65536) 2))).setCell ⟨w.heap.size, 3, none⟩ (.int .i64 ((diagV 65536 65536 65536) 3))).setCell ⟨w.heap.size, 4, none⟩ (.int .i64 ((diagV 65536 65536 65536) 4))).setCell ⟨w.heap.size, 5, none⟩ (.int .i64 ((diagV 65536 65536 65536) 5))).setCell ⟨w.heap.size, 6, none⟩ (.int .i64 ((diagV 65536 65536 65536) 6))).setCell ⟨w.heap.size, 7, none⟩ (.int .i64 ((diagV 65536 65536 65536) 7))).setCell ⟨w.heap.size, 8, none⟩ (.int .i64 ((diagV 65536 65536 65536) 8))).setCell ⟨w.heap.size, 9, none⟩ (.int .i64 ((diagV 65536 65536 65536) 9))).setCell ⟨w.heap.size, 10, none⟩ (.int .i64 ((diagV 65536 65536 65536) 10))).setCell ⟨w.heap.size, 11, none⟩ (.int .i64 ((diagV 65536 65536 65536) 11))) from ext12 ((HX1.out.trans HXR.out).trans hx2) hl0 _ _ _ _ _ _ _ _ _ _ _ _)
        generalize ((((((((((((w2.setCell ⟨w.heap.size, 0, none⟩ (.int .i64 ((diagV 65536 65536 65536) 0))).setCell ⟨w.heap.size, 1, none⟩ (.int .i64 ((diagV 65536 65536 65536) 1))).setCell ⟨w.heap.size, 2, none⟩ (.int .i64 ((diagV 65536 65536 65536) 2))).setCell ⟨w.heap.size, 3, none⟩ (.int .i64 ((diagV 65536 65536 65536) 3))).setCell ⟨w.heap.size, 4, none⟩ (.int .i64 ((diagV 65536 65536 65536) 4))).setCell ⟨w.heap.size, 5, none⟩ (.int .i64 ((diagV 65536 65536 65536) 5))).setCell ⟨w.heap.size, 6, none⟩ (.int .i64 ((diagV 65536 65536 65536) 6))).setCell ⟨w.heap.size, 7, none⟩ (.int .i64 ((diagV 65536 65536 65536) 7))).setCell ⟨w.heap.size, 8, none⟩ (.int .i64 ((diagV 65536 65536 65536) 8))).setCell ⟨w.heap.size, 9, none⟩ (.int .i64 ((diagV 65536 65536 65536) 9))).setCell ⟨w.heap.size, 10, none⟩ (.int .i64 ((diagV 65536 65536 65536) 10))).setCell ⟨w.heap.size, 11, none⟩ (.int .i64 ((diagV 65536 65536 65536) 11))) = wz at *
        have k0 : wz.cell? ⟨w.heap.size, 0, none⟩ = some (.int .i64 ((diagV 65536 65536 65536) 0)) := (HZ.out.at_ 0 (by decide)).1
        have k1 : wz.cell? ⟨w.heap.size, 1, none⟩ = some (.int .i64 ((diagV 65536 65536 65536) 1)) := (HZ.out.at_ 1 (by decide)).1
        have k2 : wz.cell? ⟨w.heap.size, 2, none⟩ = some (.int .i64 ((diagV 65536 65536 65536) 2)) := (HZ.out.at_ 2 (by decide)).1
        have k3 : wz.cell? ⟨w.heap.size, 3, none⟩ = some (.int .i64 ((diagV 65536 65536 65536) 3)) := (HZ.out.at_ 3 (by decide)).1
        have k4 : wz.cell? ⟨w.heap.size, 4, none⟩ = some (.int .i64 ((diagV 65536 65536 65536) 4)) := (HZ.out.at_ 4 (by decide)).1
        have k5 : wz.cell? ⟨w.heap.size, 5, none⟩ = some (.int .i64 ((diagV 65536 65536 65536) 5)) := (HZ.out.at_ 5 (by decide)).1
        have k6 : wz.cell? ⟨w.heap.size, 6, none⟩ = some (.int .i64 ((diagV 65536 65536 65536) 6)) := (HZ.out.at_ 6 (by decide)).1
        have k7 : wz.cell? ⟨w.heap.size, 7, none⟩ = some (.int .i64 ((diagV 65536 65536 65536) 7)) := (HZ.out.at_ 7 (by decide)).1
        have k8 : wz.cell? ⟨w.heap.size, 8, none⟩ = some (.int .i64 ((diagV 65536 65536 65536) 8)) := (HZ.out.at_ 8 (by decide)).1
        have k9 : wz.cell? ⟨w.heap.size, 9, none⟩ = some (.int .i64 ((diagV 65536 65536 65536) 9)) := (HZ.out.at_ 9 (by decide)).1
        have k10 : wz.cell? ⟨w.heap.size, 10, none⟩ = some (.int .i64 ((diagV 65536 65536 65536) 10)) := (HZ.out.at_ 10 (by decide)).1
        have k11 : wz.cell? ⟨w.heap.size, 11, none⟩ = some (.int .i64 ((diagV 65536 65536 65536) 11)) := (HZ.out.at_ 11 (by decide)).1
        refine bodyPost_ret (v := .tuple #[.agg #[.int .i64 ((diagV 65536 65536 65536) 0), .int .i64 ((diagV 65536 65536 65536) 1), .int .i64 ((diagV 65536 65536 65536) 2), .int .i64 ((diagV 65536 65536 65536) 3), .int .i64 ((diagV 65536 65536 65536) 4), .int .i64 ((diagV 65536 65536 65536) 5), .int .i64 ((diagV 65536 65536 65536) 6), .int .i64 ((diagV 65536 65536 65536) 7), .int .i64 ((diagV 65536 65536 65536) 8), .int .i64 ((diagV 65536 65536 65536) 9), .int .i64 ((diagV 65536 65536 65536) 10), .int .i64 ((diagV 65536 65536 65536) 11)], .int .i64 0]) (by simp [results, Try.results33, go_sem, k0, k1, k2, k3, k4, k5, k6, k7, k8, k9, k10, k11]) rfl ⟨?_, HXZ.out⟩
        (simp only [hE.out.1, hE.out.2])
      · have hn0 : ((n : Int) == 0) = false := by rw [beq_eq_false_iff_ne]; omega
        have hE : Hid (mulME f n = foldE f (n - 1) ∧ ∀ j, mulMR f n j = if foldE f (n - 1) = 0 then foldR f (n - 1) j else 0) := ⟨by unfold mulME; rw [if_pos HV.out, if_neg (by omega)], fun j => by unfold mulMR; rw [if_pos HV.out, if_neg (by omega)]⟩
        obtain ⟨ad, rfl, hc0⟩ := H.out.2 0 (by omega)
        have hc1 : ∀ W', Ext w1 W' → W'.cell? ad = some (.int .i64 (f 0 0)) := fun W' hw => el0_0 ((HX1.out.trans hw).cell (hc0 0 (by decide)))
        have hc2 : ∀ W', Ext w1 W' → ∀ j, 1 ≤ j → j < 12 → W'.cell? ⟨ad.block, ad.off + j, none⟩ = some (.int .i64 (f 0 j)) := fun W' hw j h1 hj => by
          cases j with
          | zero => omega
          | succ j => exact el0_s ((HX1.out.trans hw).cell (hc0 (j + 1) hj))
        have hxr := HXR.out
        clear hc0
        go_wp2
        clear hc1 hc2
        have hgo : w.heap.size < wr.heap.size := by have h1 := hxr.size; obtain ⟨cs, h3, _⟩ := hres.out.out; have := h3.lt; omega
        have hl1 : w.heap.size ≤ wr.heap.size := by omega
        have hl2 : w1.heap.size ≤ wr.heap.size := hxr.size
        have hs : MSt w (wr.alloc (.cells #[.int .i64 ((f 0) 0), .int .i64 ((f 0) 1), .int .i64 ((f 0) 2), .int .i64 ((f 0) 3), .int .i64 ((f 0) 4), .int .i64 ((f 0) 5), .int .i64 ((f 0) 6), .int .i64 ((f 0) 7), .int .i64 ((f 0) 8), .int .i64 ((f 0) 9), .int .i64 ((f 0) 10), .int .i64 ((f 0) 11)] 49)) w.heap.size wr.heap.size (foldR f 0) := ⟨(HX1.out.trans hxr).alloc _, (hres.out.ext hxr).ext ((Ext.refl _).alloc _), row12 (Lies.new _ _ _ _ rfl)⟩
        have HS := Lib.hid hs; have HXS := Lib.hid (hxr.alloc (.cells #[.int .i64 ((f 0) 0), .int .i64 ((f 0) 1), .int .i64 ((f 0) 2), .int .i64 ((f 0) 3), .int .i64 ((f 0) 4), .int .i64 ((f 0) 5), .int .i64 ((f 0) 6), .int .i64 ((f 0) 7), .int .i64 ((f 0) 8), .int .i64 ((f 0) 9), .int .i64 ((f 0) 10), .int .i64 ((f 0) 11)] 49))
        obtain ⟨gb, hgb⟩ : ∃ gb, gb = wr.heap.size := ⟨_, rfl⟩
        rw [← hgb] at hgo hl1 hl2 HS ⊢
        clear hs hxr hgb
        go_loopw [3, 7, 8, 9] (fun _ i _ _ wz => ∃ k : Nat, k ≤ n - 1 ∧ i = .int .i64 ((k : Int) + 1) ∧ foldE f k = 0 ∧ MSt w wz w.heap.size gb (foldR f k) ∧ Ext w1 wz) (fun _ i _ _ _ => n - (intOf i).toNat)
        case atStart => exact ⟨0, by omega, rfl, rfl, HS.out, HXS.out⟩
        case round =>
          obtain ⟨k, hk, rfl, hf, ht, hx⟩ := hrel
          obtain ⟨wz, rfl⟩ : ∃ wz : World, wz = wr := ⟨_, rfl⟩
          have HF := Lib.hid hf; have HT := Lib.hid ht; have HXZ := Lib.hid hx; clear hf ht hx HXR HXS HS
          by_cases hlt : k + 1 < n
          · have hdl : decide ((k : Int) + 1 < (n : Int)) = true := decide_eq_true (by omega)
            have HST := Lib.hid (fold_step HV.out k hlt HF.out)
            have hl4 : gb < wz.heap.size := by obtain ⟨cs, h3, _⟩ := HT.out.row.out; exact h3.lt
            go_upto_region 13 with (fail)
            go_cut [8, 9] (fun xp e wx => ∃ g, xp = .pointer (some ⟨g, 0, none⟩) ∧ wz.heap.size ≤ g ∧ e = .int .i64 (twoE (foldR f k) (f (k + 1))) ∧ RowZ wx g 49 12 (twoR (foldR f k) (f (k + 1))) ∧ Ext wz wx)
            case first =>
              obtain ⟨ad', e', hc⟩ := H.out.2 (k + 1) hlt
              cases e'
              obtain ⟨he0, he1⟩ := el_cells hc (HX1.out.trans HXZ.out) (by decide)
              have ho : ∀ W', Ext wz W' → ∀ j, j < 12 → W'.cell? ⟨gb, j, none⟩ = some (.int .i64 (foldR f k j)) := fun W' hw j hj => hw.cell (HT.out.row.at_ j hj).1
              have hEr : Ext wz wz := Ext.refl _
              have hEa : ∀ W o, Ext wz W → Ext wz (W.alloc o) := fun W o h => h.alloc o
              have hEd : ∀ W, Ext wz W → Ext wz W.drew := fun W h => h.drew
              have k1 : (0 : Int) ≤ (k : Int) + 1 := by omega
              have k2 : (k : Int) + 1 < (n : Int) := by omega
              have k3 : ((k : Int) + 1).toNat = k + 1 := by omega
              clear hc
              go_region_with (first
                | (go_at_call 95; (with_reducible refine (rtwo_any (foldR f k) (f (k + 1)) _).mono ?_); rintro e v1 ⟨rfl, hx1⟩; rw [HST.out.1, HST.out.2]; (try (have hz := (row12 (v := zeroM) (Lies.new wz.drew #[.int .i64 (zeroM 0), .int .i64 (zeroM 1), .int .i64 (zeroM 2), .int .i64 (zeroM 3), .int .i64 (zeroM 4), .int .i64 (zeroM 5), .int .i64 (zeroM 6), .int .i64 (zeroM 7), .int .i64 (zeroM 8), .int .i64 (zeroM 9), .int .i64 (zeroM 10), .int .i64 (zeroM 11)] 49 wz.heap.size rfl)).ext hx1; have hk_ := fun i v hv => (hz.lies).at_ i v hv; obtain ⟨g0, gf0⟩ := hk_ 0 _ rfl; obtain ⟨g1, gf1⟩ := hk_ 1 _ rfl; obtain ⟨g2, gf2⟩ := hk_ 2 _ rfl; obtain ⟨g3, gf3⟩ := hk_ 3 _ rfl; obtain ⟨g4, gf4⟩ := hk_ 4 _ rfl; obtain ⟨g5, gf5⟩ := hk_ 5 _ rfl; obtain ⟨g6, gf6⟩ := hk_ 6 _ rfl; obtain ⟨g7, gf7⟩ := hk_ 7 _ rfl; obtain ⟨g8, gf8⟩ := hk_ 8 _ rfl; obtain ⟨g9, gf9⟩ := hk_ 9 _ rfl; obtain ⟨g10, gf10⟩ := hk_ 10 _ rfl; obtain ⟨g11, gf11⟩ := hk_ 11 _ rfl; clear hk_))))
              all_goals (go_wp2_with fail; go_simp; go_meet; first
                | exact ⟨_, rfl, Nat.le_refl _, rfl, hz.all12 _, ext12 ((((Ext.refl wz).drew).alloc _).trans hx1) (Nat.le_refl _) _ _ _ _ _ _ _ _ _ _ _ _⟩
                | exact ⟨_, rfl, hx1.size, rfl, row12 (Lies.new _ _ _ _ rfl), (((Ext.refl wz).drew).trans hx1).alloc _⟩)
            case rest =>
              obtain ⟨g, rfl, hg, rfl, hrow, hxc⟩ := hcut
              have HT3 := Lib.hid (HT.out.next hxc)
              have HX3 := Lib.hid (HXZ.out.trans hxc)
              by_cases he : twoE (foldR f k) (f (k + 1)) = 0
              · have hn1 : Hid (foldE f (k + 1) = 0) := by show (if foldE f k = 0 then _ else _) = _; rw [if_pos HF.out, he]
                have heb : (twoE (foldR f k) (f (k + 1)) != 0) = false := by simpa using he
                have hk_ := fun i v hv => (hrow.lies).at_ i v hv; have x0 := (hk_ 0 _ rfl).1; have x1 := (hk_ 1 _ rfl).1; have x2 := (hk_ 2 _ rfl).1; have x3 := (hk_ 3 _ rfl).1; have x4 := (hk_ 4 _ rfl).1; have x5 := (hk_ 5 _ rfl).1; have x6 := (hk_ 6 _ rfl).1; have x7 := (hk_ 7 _ rfl).1; have x8 := (hk_ 8 _ rfl).1; have x9 := (hk_ 9 _ rfl).1; have x10 := (hk_ 10 _ rfl).1; have x11 := (hk_ 11 _ rfl).1; clear hk_
                have hk_ := fun i v hv => (HT3.out.row.lies).at_ i v hv; obtain ⟨o0, of0⟩ := hk_ 0 _ rfl; obtain ⟨o1, of1⟩ := hk_ 1 _ rfl; obtain ⟨o2, of2⟩ := hk_ 2 _ rfl; obtain ⟨o3, of3⟩ := hk_ 3 _ rfl; obtain ⟨o4, of4⟩ := hk_ 4 _ rfl; obtain ⟨o5, of5⟩ := hk_ 5 _ rfl; obtain ⟨o6, of6⟩ := hk_ 6 _ rfl; obtain ⟨o7, of7⟩ := hk_ 7 _ rfl; obtain ⟨o8, of8⟩ := hk_ 8 _ rfl; obtain ⟨o9, of9⟩ := hk_ 9 _ rfl; obtain ⟨o10, of10⟩ := hk_ 10 _ rfl; obtain ⟨o11, of11⟩ := hk_ 11 _ rfl; clear hk_
                clear he
                go_wp2
                go_roundw
                case rel => exact ⟨k + 1, by omega, by simp, hn1.out, HT3.out.all12 hl1 (by omega) (foldR f (k + 1)), ext12 HX3.out hl2 _ _ _ _ _ _ _ _ _ _ _ _⟩
                case measure => simp [intOf]; omega
              · have hE2 : Hid (foldE f (n - 1) = twoE (foldR f k) (f (k + 1))) := by
                  have h1 : foldE f (k + 1) = twoE (foldR f k) (f (k + 1)) := by show (if foldE f k = 0 then _ else _) = _; rw [if_pos HF.out]
                  show _ = _
                  rw [show n - 1 = (k + 1) + (n - 1 - (k + 1)) by omega, foldE_stay _ _ _ (by rw [h1]; exact he), h1]
                have hR2 : Hid (∀ j, mulMR f n j = 0) := by show ∀ _, _; intro j; rw [hE.out.2, hE2.out, if_neg he]
                have heb : (twoE (foldR f k) (f (k + 1)) != 0) = true := by simpa using he
                have hk_ := fun i v hv => (HT3.out.res.lies).at_ i v hv; obtain ⟨g0, gf0⟩ := hk_ 0 _ rfl; obtain ⟨g1, gf1⟩ := hk_ 1 _ rfl; obtain ⟨g2, gf2⟩ := hk_ 2 _ rfl; obtain ⟨g3, gf3⟩ := hk_ 3 _ rfl; obtain ⟨g4, gf4⟩ := hk_ 4 _ rfl; obtain ⟨g5, gf5⟩ := hk_ 5 _ rfl; obtain ⟨g6, gf6⟩ := hk_ 6 _ rfl; obtain ⟨g7, gf7⟩ := hk_ 7 _ rfl; obtain ⟨g8, gf8⟩ := hk_ 8 _ rfl; obtain ⟨g9, gf9⟩ := hk_ 9 _ rfl; obtain ⟨g10, gf10⟩ := hk_ 10 _ rfl; obtain ⟨g11, gf11⟩ := hk_ 11 _ rfl; clear hk_
                clear he
                go_wp2
                clear g0 g1 g2 g3 g4 g5 g6 g7 g8 g9 g10 g11 gf0 gf1 gf2 gf3 gf4 gf5 gf6 gf7 gf8 gf9 gf10 gf11
                have HZ := Lib.hid (show RowZ ((((((((((((wc.setCell ⟨w.heap.size, 0, none⟩ (.int .i64 0)).setCell ⟨w.heap.size, 1, none⟩ (.int .i64 0)).setCell ⟨w.heap.size, 2, none⟩ (.int .i64 0)).setCell ⟨w.heap.size, 3, none⟩ (.int .i64 0)).setCell ⟨w.heap.size, 4, none⟩ (.int .i64 0)).setCell ⟨w.heap.size, 5, none⟩ (.int .i64 0)).setCell ⟨w.heap.size, 6, none⟩ (.int .i64 0)).setCell ⟨w.heap.size, 7, none⟩ (.int .i64 0)).setCell ⟨w.heap.size, 8, none⟩ (.int .i64 0)).setCell ⟨w.heap.size, 9, none⟩ (.int .i64 0)).setCell ⟨w.heap.size, 10, none⟩ (.int .i64 0)).setCell ⟨w.heap.size, 11, none⟩ (.int .i64 0)) w.heap.size 49 12 zeroM from RowZ.all12 HT3.out.res zeroM)
                have HXZ := Lib.hid (show Ext _ ((((((((((((wc.setCell ⟨w.heap.size, 0, none⟩ (.int .i64 0)).setCell ⟨w.heap.size, 1, none⟩ (.int .i64 0)).setCell ⟨w.heap.size, 2, none⟩ (.int .i64 0)).setCell ⟨w.heap.size, 3, none⟩ (.int .i64 0)).setCell ⟨w.heap.size, 4, none⟩ (.int .i64 0)).setCell ⟨w.heap.size, 5, none⟩ (.int .i64 0)).setCell ⟨w.heap.size, 6, none⟩ (.int .i64 0)).setCell ⟨w.heap.size, 7, none⟩ (.int .i64 0)).setCell ⟨w.heap.size, 8, none⟩ (.int .i64 0)).setCell ⟨w.heap.size, 9, none⟩ (.int .i64 0)).setCell ⟨w.heap.size, 10, none⟩ (.int .i64 0)).setCell ⟨w.heap.size, 11, none⟩ (.int .i64 0)) from ext12 HT3.out.ext hl0 _ _ _ _ _ _ _ _ _ _ _ _)
                generalize ((((((((((((wc.setCell ⟨w.heap.size, 0, none⟩ (.int .i64 0)).setCell ⟨w.heap.size, 1, none⟩ (.int .i64 0)).setCell ⟨w.heap.size, 2, none⟩ (.int .i64 0)).setCell ⟨w.heap.size, 3, none⟩ (.int .i64 0)).setCell ⟨w.heap.size, 4, none⟩ (.int .i64 0)).setCell ⟨w.heap.size, 5, none⟩ (.int .i64 0)).setCell ⟨w.heap.size, 6, none⟩ (.int .i64 0)).setCell ⟨w.heap.size, 7, none⟩ (.int .i64 0)).setCell ⟨w.heap.size, 8, none⟩ (.int .i64 0)).setCell ⟨w.heap.size, 9, none⟩ (.int .i64 0)).setCell ⟨w.heap.size, 10, none⟩ (.int .i64 0)).setCell ⟨w.heap.size, 11, none⟩ (.int .i64 0)) = wz at *
                have k0 : wz.cell? ⟨w.heap.size, 0, none⟩ = some (.int .i64 0) := (HZ.out.at_ 0 (by decide)).1
                have k1 : wz.cell? ⟨w.heap.size, 1, none⟩ = some (.int .i64 0) := (HZ.out.at_ 1 (by decide)).1
                have k2 : wz.cell? ⟨w.heap.size, 2, none⟩ = some (.int .i64 0) := (HZ.out.at_ 2 (by decide)).1
                have k3 : wz.cell? ⟨w.heap.size, 3, none⟩ = some (.int .i64 0) := (HZ.out.at_ 3 (by decide)).1
                have k4 : wz.cell? ⟨w.heap.size, 4, none⟩ = some (.int .i64 0) := (HZ.out.at_ 4 (by decide)).1
                have k5 : wz.cell? ⟨w.heap.size, 5, none⟩ = some (.int .i64 0) := (HZ.out.at_ 5 (by decide)).1
                have k6 : wz.cell? ⟨w.heap.size, 6, none⟩ = some (.int .i64 0) := (HZ.out.at_ 6 (by decide)).1
                have k7 : wz.cell? ⟨w.heap.size, 7, none⟩ = some (.int .i64 0) := (HZ.out.at_ 7 (by decide)).1
                have k8 : wz.cell? ⟨w.heap.size, 8, none⟩ = some (.int .i64 0) := (HZ.out.at_ 8 (by decide)).1
                have k9 : wz.cell? ⟨w.heap.size, 9, none⟩ = some (.int .i64 0) := (HZ.out.at_ 9 (by decide)).1
                have k10 : wz.cell? ⟨w.heap.size, 10, none⟩ = some (.int .i64 0) := (HZ.out.at_ 10 (by decide)).1
                have k11 : wz.cell? ⟨w.heap.size, 11, none⟩ = some (.int .i64 0) := (HZ.out.at_ 11 (by decide)).1
                refine bodyPost_ret (v := .tuple #[.agg #[.int .i64 0, .int .i64 0, .int .i64 0, .int .i64 0, .int .i64 0, .int .i64 0, .int .i64 0, .int .i64 0, .int .i64 0, .int .i64 0, .int .i64 0, .int .i64 0], .int .i64 (twoE (foldR f k) (f (k + 1)))]) (by simp [results, Try.results33, go_sem, k0, k1, k2, k3, k4, k5, k6, k7, k8, k9, k10, k11]) rfl ⟨?_, HXZ.out⟩
                (simp only [hE.out.1, hE2.out, hR2.out])
          · obtain rfl : n - 1 = k := by omega
            have hfin : Hid (∀ j, mulMR f n j = foldR f (n - 1) j) := by show ∀ _, _; intro j; rw [hE.out.2, HF.out, if_pos rfl]
            have hdl : decide (((n - 1 : Nat) : Int) + 1 < (n : Int)) = false := decide_eq_false (by omega)
            have hk_ := fun i v hv => (HT.out.res.lies).at_ i v hv; obtain ⟨g0, gf0⟩ := hk_ 0 _ rfl; obtain ⟨g1, gf1⟩ := hk_ 1 _ rfl; obtain ⟨g2, gf2⟩ := hk_ 2 _ rfl; obtain ⟨g3, gf3⟩ := hk_ 3 _ rfl; obtain ⟨g4, gf4⟩ := hk_ 4 _ rfl; obtain ⟨g5, gf5⟩ := hk_ 5 _ rfl; obtain ⟨g6, gf6⟩ := hk_ 6 _ rfl; obtain ⟨g7, gf7⟩ := hk_ 7 _ rfl; obtain ⟨g8, gf8⟩ := hk_ 8 _ rfl; obtain ⟨g9, gf9⟩ := hk_ 9 _ rfl; obtain ⟨g10, gf10⟩ := hk_ 10 _ rfl; obtain ⟨g11, gf11⟩ := hk_ 11 _ rfl; clear hk_
            have hk_ := fun i v hv => (HT.out.row.lies).at_ i v hv; have o0 := (hk_ 0 _ rfl).1; have o1 := (hk_ 1 _ rfl).1; have o2 := (hk_ 2 _ rfl).1; have o3 := (hk_ 3 _ rfl).1; have o4 := (hk_ 4 _ rfl).1; have o5 := (hk_ 5 _ rfl).1; have o6 := (hk_ 6 _ rfl).1; have o7 := (hk_ 7 _ rfl).1; have o8 := (hk_ 8 _ rfl).1; have o9 := (hk_ 9 _ rfl).1; have o10 := (hk_ 10 _ rfl).1; have o11 := (hk_ 11 _ rfl).1; clear hk_
            go_wp2
            clear g0 g1 g2 g3 g4 g5 g6 g7 g8 g9 g10 g11 gf0 gf1 gf2 gf3 gf4 gf5 gf6 gf7 gf8 gf9 gf10 gf11 o0 o1 o2 o3 o4 o5 o6 o7 o8 o9 o10 o11
            have HZ := Lib.hid (show RowZ ((((((((((((wz.setCell ⟨w.heap.size, 0, none⟩ (.int .i64 ((foldR f (n - 1)) 0))).setCell ⟨w.heap.size, 1, none⟩ (.int .i64 ((foldR f (n - 1)) 1))).setCell ⟨w.heap.size, 2, none⟩ (.int .i64 ((foldR f (n - 1)) 2))).setCell ⟨w.heap.size, 3, none⟩ (.int .i64 ((foldR f (n - 1)) 3))).setCell ⟨w.heap.size, 4, none⟩ (.int .i64 ((foldR f (n - 1)) 4))).setCell ⟨w.heap.size, 5, none⟩ (.int .i64 ((foldR f (n - 1)) 5))).setCell ⟨w.heap.size, 6, none⟩ (.int .i64 ((foldR f (n - 1)) 6))).setCell ⟨w.heap.size, 7, none⟩ (.int .i64 ((foldR f (n - 1)) 7))).setCell ⟨w.heap.size, 8, none⟩ (.int .i64 ((foldR f (n - 1)) 8))).setCell ⟨w.heap.size, 9, none⟩ (.int .i64 ((foldR f (n - 1)) 9))).setCell ⟨w.heap.size, 10, none⟩ (.int .i64 ((foldR f (n - 1)) 10))).setCell ⟨w.heap.size, 11, none⟩ (.int .i64 ((foldR f (n - 1)) 11))) w.heap.size 49 12 (foldR f (n - 1)) from RowZ.all12 HT.out.res (foldR f (n - 1)))
            have HXZ := Lib.hid (show Ext _ ((((((((((((wz.setCell ⟨w.heap.size, 0, none⟩ (.int .i64 ((foldR f (n - 1)) 0))).setCell ⟨w.heap.size, 1, none⟩ (.int .i64 ((foldR f (n - 1)) 1))).setCell ⟨w.heap.size, 2, none⟩ (.int .i64 ((foldR f (n - 1)) 2))).setCell ⟨w.heap.size, 3, none⟩ (.int .i64 ((foldR f (n - 1)) 3))).setCell ⟨w.heap.size, 4, none⟩ (.int .i64 ((foldR f (n - 1)) 4))).setCell ⟨w.heap.size, 5, none⟩ (.int .i64 ((foldR f (n - 1)) 5))).setCell ⟨w.heap.size, 6, none⟩ (.int .i64 ((foldR f (n - 1)) 6))).setCell ⟨w.heap.size, 7, none⟩ (.int .i64 ((foldR f (n - 1)) 7))).setCell ⟨w.heap.size, 8, none⟩ (.int .i64 ((foldR f (n - 1)) 8))).setCell ⟨w.heap.size, 9, none⟩ (.int .i64 ((foldR f (n - 1)) 9))).setCell ⟨w.heap.size, 10, none⟩ (.int .i64 ((foldR f (n - 1)) 10))).setCell ⟨w.heap.size, 11, none⟩ (.int .i64 ((foldR f (n - 1)) 11))) from ext12 HT.out.ext hl0 _ _ _ _ _ _ _ _ _ _ _ _)
            generalize ((((((((((((wz.setCell ⟨w.heap.size, 0, none⟩ (.int .i64 ((foldR f (n - 1)) 0))).setCell ⟨w.heap.size, 1, none⟩ (.int .i64 ((foldR f (n - 1)) 1))).setCell ⟨w.heap.size, 2, none⟩ (.int .i64 ((foldR f (n - 1)) 2))).setCell ⟨w.heap.size, 3, none⟩ (.int .i64 ((foldR f (n - 1)) 3))).setCell ⟨w.heap.size, 4, none⟩ (.int .i64 ((foldR f (n - 1)) 4))).setCell ⟨w.heap.size, 5, none⟩ (.int .i64 ((foldR f (n - 1)) 5))).setCell ⟨w.heap.size, 6, none⟩ (.int .i64 ((foldR f (n - 1)) 6))).setCell ⟨w.heap.size, 7, none⟩ (.int .i64 ((foldR f (n - 1)) 7))).setCell ⟨w.heap.size, 8, none⟩ (.int .i64 ((foldR f (n - 1)) 8))).setCell ⟨w.heap.size, 9, none⟩ (.int .i64 ((foldR f (n - 1)) 9))).setCell ⟨w.heap.size, 10, none⟩ (.int .i64 ((foldR f (n - 1)) 10))).setCell ⟨w.heap.size, 11, none⟩ (.int .i64 ((foldR f (n - 1)) 11))) = wz at *
            have k0 : wz.cell? ⟨w.heap.size, 0, none⟩ = some (.int .i64 ((foldR f (n - 1)) 0)) := (HZ.out.at_ 0 (by decide)).1
            have k1 : wz.cell? ⟨w.heap.size, 1, none⟩ = some (.int .i64 ((foldR f (n - 1)) 1)) := (HZ.out.at_ 1 (by decide)).1
            have k2 : wz.cell? ⟨w.heap.size, 2, none⟩ = some (.int .i64 ((foldR f (n - 1)) 2)) := (HZ.out.at_ 2 (by decide)).1
            have k3 : wz.cell? ⟨w.heap.size, 3, none⟩ = some (.int .i64 ((foldR f (n - 1)) 3)) := (HZ.out.at_ 3 (by decide)).1
            have k4 : wz.cell? ⟨w.heap.size, 4, none⟩ = some (.int .i64 ((foldR f (n - 1)) 4)) := (HZ.out.at_ 4 (by decide)).1
            have k5 : wz.cell? ⟨w.heap.size, 5, none⟩ = some (.int .i64 ((foldR f (n - 1)) 5)) := (HZ.out.at_ 5 (by decide)).1
            have k6 : wz.cell? ⟨w.heap.size, 6, none⟩ = some (.int .i64 ((foldR f (n - 1)) 6)) := (HZ.out.at_ 6 (by decide)).1
            have k7 : wz.cell? ⟨w.heap.size, 7, none⟩ = some (.int .i64 ((foldR f (n - 1)) 7)) := (HZ.out.at_ 7 (by decide)).1
            have k8 : wz.cell? ⟨w.heap.size, 8, none⟩ = some (.int .i64 ((foldR f (n - 1)) 8)) := (HZ.out.at_ 8 (by decide)).1
            have k9 : wz.cell? ⟨w.heap.size, 9, none⟩ = some (.int .i64 ((foldR f (n - 1)) 9)) := (HZ.out.at_ 9 (by decide)).1
            have k10 : wz.cell? ⟨w.heap.size, 10, none⟩ = some (.int .i64 ((foldR f (n - 1)) 10)) := (HZ.out.at_ 10 (by decide)).1
            have k11 : wz.cell? ⟨w.heap.size, 11, none⟩ = some (.int .i64 ((foldR f (n - 1)) 11)) := (HZ.out.at_ 11 (by decide)).1
            refine bodyPost_ret (v := .tuple #[.agg #[.int .i64 ((foldR f (n - 1)) 0), .int .i64 ((foldR f (n - 1)) 1), .int .i64 ((foldR f (n - 1)) 2), .int .i64 ((foldR f (n - 1)) 3), .int .i64 ((foldR f (n - 1)) 4), .int .i64 ((foldR f (n - 1)) 5), .int .i64 ((foldR f (n - 1)) 6), .int .i64 ((foldR f (n - 1)) 7), .int .i64 ((foldR f (n - 1)) 8), .int .i64 ((foldR f (n - 1)) 9), .int .i64 ((foldR f (n - 1)) 10), .int .i64 ((foldR f (n - 1)) 11)], .int .i64 0]) (by simp [results, Try.results33, go_sem, k0, k1, k2, k3, k4, k5, k6, k7, k8, k9, k10, k11]) rfl ⟨?_, HXZ.out⟩
            (simp only [hE.out.1, hfin.out, HF.out])
end Go.Proofs.Ytmgckodihnmjoaa
