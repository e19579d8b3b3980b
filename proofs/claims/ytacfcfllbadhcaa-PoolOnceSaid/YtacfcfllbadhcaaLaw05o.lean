/-
  The law PoolOnce: what has been given keeps its generation, so no name comes twice; walked. Conditions: none but that the slice lies in memory.
-/
import Derived.Test.YtacfcfllbadhcaaLaw05
set_option linter.unusedVariables false
set_option linter.unusedSimpArgs false
namespace Go.Proofs.Ytacfcfllbadhcaa
open Go.RowKit

theorem allQ_le (g : Nat → Nat) (l : Nat → Bool) : (allP g l).length ≤ 256 := allL_len g l 256
theorem allL_mem {g : Nat → Nat} {l : Nat → Bool} {k : Nat} {x : Int} (h : x ∈ allL g l k) : ∃ i, i < k ∧ l i = true ∧ x = nameI g i := by
  induction k with
  | zero => simp [allL] at h
  | succ k ih =>
    simp only [allL, List.mem_append] at h
    rcases h with h | h
    · obtain ⟨i, h1, h2⟩ := ih h; exact ⟨i, by omega, h2⟩
    · split at h
      · simp at h; exact ⟨k, by omega, ‹_›, h⟩
      · simp at h
/-- A name that has been given: its index's generation is greater, or it lives. -/
def OnceP (g : Nat → Nat) (l : Nat → Bool) (xs : List Int) : Prop := ∀ x ∈ xs, ∃ i y : Nat, i < 256 ∧ x = 256 * (y : Int) + i ∧ (y < g i ∨ (y = g i ∧ l i = true))
theorem once_nil (g : Nat → Nat) (l : Nat → Bool) : OnceP g l [] := fun x hx => by simp at hx
theorem once_new {g : Nat → Nat} {l : Nat → Bool} {xs : List Int} {r : Nat} (h : OnceP g l xs) (hr : r ≤ 256) (hf : freeF g l r < r) : hasL xs (takeV g l r) = false := by
  have hfr := freeF_free hf
  unfold takeV
  rw [if_pos hf]
  unfold hasL
  rw [List.any_eq_false]
  intro x hx hxe
  simp only [decide_eq_true_eq] at hxe
  obtain ⟨i, y, hi, rfl, ho⟩ := h x hx
  unfold nameI at hxe
  simp only [freeB, Bool.and_eq_true] at hfr
  generalize freeF g l r = f at *
  have e : i = f := by omega
  subst e
  have e2 : y = g i := by omega
  rcases ho with ho | ho
  · omega
  · rw [ho.2] at hfr; simp at hfr
theorem once_take {g : Nat → Nat} {l : Nat → Bool} {xs : List Int} {r : Nat} (h : OnceP g l xs) (hr : r ≤ 256) (hf : freeF g l r < r) : OnceP g (takeL g l r) (xs ++ [takeV g l r]) := by
  unfold takeV takeL
  rw [if_pos hf, if_pos hf]
  intro x hx
  rcases List.mem_append.1 hx with hx | hx
  · obtain ⟨i, y, hi, rfl, ho⟩ := h x hx
    refine ⟨i, y, hi, rfl, ?_⟩
    rcases ho with ho | ho
    · exact .inl ho
    · refine .inr ⟨ho.1, ?_⟩
      unfold upd; split
      · rfl
      · exact ho.2
  · simp at hx; subst hx
    exact ⟨freeF g l r, g (freeF g l r), by omega, rfl, .inr ⟨rfl, upd_same _ _ _⟩⟩
theorem take_live {g : Nat → Nat} {l : Nat → Bool} {r : Nat} (hr : r ≤ 256) (hf : freeF g l r < r) : liveV g (takeL g l r) (takeV g l r) = true := by
  have hfr := freeF_free hf
  unfold takeV takeL
  rw [if_pos hf, if_pos hf]
  simp only [freeB, Bool.and_eq_true, decide_eq_true_eq] at hfr
  generalize freeF g l r = f at *
  have e1 : (nameI g f % 256).toNat = f := by unfold nameI; omega
  have e2 : nameI g f / 256 = (g f : Int) := by unfold nameI; omega
  have e3 : rightB (nameI g f) = true := by unfold nameI rightB; simp; omega
  simp [liveV, e1, e2, e3, upd_same]
theorem once_drop {g : Nat → Nat} {l : Nat → Bool} {xs : List Int} (h : OnceP g l xs) (id : Int) : OnceP (dropG g l id) (dropL g l id) xs := by
  unfold dropG dropL
  split
  · intro x hx
    obtain ⟨i, y, hi, rfl, ho⟩ := h x hx
    refine ⟨i, y, hi, rfl, ?_⟩
    unfold upd
    by_cases e : i = (id % 256).toNat
    · left; subst e; simp only [if_true]; omega
    · simp only [e, if_false]; exact ho
  · exact h
theorem all_live {g : Nat → Nat} {l : Nat → Bool} {r : Nat} (hg : GenOk r g l) {x : Int} (h : x ∈ allP g l) : liveV g l x = true := by
  obtain ⟨i, hi, hl, rfl⟩ := allL_mem h
  have := hg.lives i hl
  have e1 : (nameI g i % 256).toNat = i := by unfold nameI; omega
  have e2 : nameI g i / 256 = (g i : Int) := by unfold nameI; omega
  have e3 : rightB (nameI g i) = true := by unfold nameI rightB; simp; omega
  simp [liveV, e1, e2, e3, hl]
theorem take_full {g : Nat → Nat} {l : Nat → Bool} {r : Nat} (hf : ¬ freeF g l r < r) : takeE g l r = 3 ∧ takeL g l r = l := by simp [takeE, takeL, hf]
theorem take_ok {g : Nat → Nat} {l : Nat → Bool} {r : Nat} (hf : freeF g l r < r) : takeE g l r = 0 := by simp [takeE, hf]
attribute [local irreducible] allP
structure Onc (w wr : World) (p r k : Nat) (v : Value) : Prop where mk :: (out : ∃ g l xs, PoolAt wr p r g l ∧ GenOk r g l ∧ OnceP g l xs ∧ Own 23 .i64 (p + 1) wr v xs ∧ xs.length ≤ k ∧ Ext w wr)
theorem own_not {e : Nat} {q : IntKind} {b : Nat} {w : World} {v : Value} {xs : List Int} (h : Own e q (b + 1) w v xs) : ¬ v.ownBlock = some b := fun h1 => by
  have := h.from_ b h1; omega
theorem ext_of {w a b : World} {F : Nat → Prop} (h : Ext w a) (hc : Chg F a b) (hf : ∀ i, F i → w.heap.size ≤ i) : Ext w b :=
  ((h.chg (fun i => w.heap.size ≤ i)).trans hc (fun i _ h => hf i h)).low (fun i hi h => by omega)
set_option maxRecDepth 20000 in
set_option maxHeartbeats 8000000 in
theorem once_any (r : Nat) (A : Option Addr) (c : Nat) (ls : List Int) (w : World) (hr : r ≤ 255) (h : RdK .u8 w A ls) (hb : ∀ n ∈ ls, 0 ≤ n ∧ n ≤ 255) : Calls Try.prog 4 #[.int .u8 (r : Int), .slice A ls.length c] w fun e w' => e = .returned (.bool true) ∧ Ext w w' := by
  have H := Lib.hid h; clear h
  have HBD := Lib.hid hb; clear hb
  by_cases hl : 600 < ls.length
  · go_enter Try.func4, Try.ntmps4
    go_wp2_with (go_at_call 8; (with_reducible refine (alive05_any _).mono ?_); rintro e w' ⟨rfl, hx⟩)
    go_ret
    exact ⟨ret_eq rfl, by (repeat (first | exact Ext.refl _ | assumption | (with_reducible refine Ext.alloc ?_ _) | (with_reducible refine Ext.drew ?_) | (with_reducible refine Ext.drewN ?_ _) | (refine Ext.trans ?_ (by assumption))))⟩
  have hr3 : r ≤ 256 := by omega
  have HG0 := Lib.hid (genOk0 hr3)
  go_enter Try.func4, Try.ntmps4
  go_wp2_with (go_at_call 9; (with_reducible refine (pnew_any _ _ hr3).mono ?_); rintro e w1 ⟨rfl, hp1, hx1⟩)
  obtain ⟨p, hpe⟩ : ∃ p, p = w.heap.size := ⟨_, rfl⟩
  have hpw : w.heap.size ≤ p := by omega
  rw [← hpe]
  rw [← hpe] at hp1
  clear hpe
  go_loopw [7, 8, 9, 10, 11, 12] (fun v j _ _ _ _ wr => ∃ k : Nat, k ≤ ls.length ∧ j = .int .i64 k ∧ Onc w wr p r k v) (fun _ j _ _ _ _ _ => ls.length - (intOf j).toNat)
  case atStart =>
    exact ⟨0, by omega, rfl, ⟨g0, l0, [], hp1, HG0.out, once_nil _ _, Own.nil _ _ _ _, by simp, hx1⟩⟩
  case round =>
    obtain ⟨k, hk, rfl, ⟨g, l, xs, hp, hg, hq, ho, hxl, hx⟩⟩ := hrel
    have HG := Lib.hid hg; clear hg
    have HQ := Lib.hid hq; clear hq
    have HX := Lib.hid hx; clear hx
    by_cases hlt : k < ls.length
    · obtain ⟨ad, rfl, hcell⟩ := (H.out.ext HX.out).2 k hlt
      obtain ⟨hy1, hy2⟩ := HBD.out (nth ls k) (nth_mem _ _ hlt)
      have hcellF := Lib.hid (fun (w' : World) (hx : Ext wr w') => hx.cell hcell)
      have hno := own_not ho
      by_cases hy : nth ls k < 128
      · have HG2 := Lib.hid HG.out.take
        by_cases hf : freeF g l r < r
        · have hq2 := Lib.hid (once_take HQ.out hr3 hf)
          have hnw := Lib.hid (once_new HQ.out hr3 hf)
          have hlv := Lib.hid (take_live hr3 hf)
          have hok := Lib.hid (take_ok hf)
          clear hf
          generalize nth ls k = y at *
          have hln : Hid ((xs.length + 1) * 8 ≤ 140737488355328) := by show _ ≤ _; omega
          go_wp2_with (first
            | (go_at_call 10; (with_reducible refine (ptake_any _ _ _ _ _ hp HG.out).mono ?_); rintro e w2 ⟨rfl, hp2, hc2⟩; rw [hok.out]; have ho2 := ho.chg hc2 (fun k hk1 hk2 => hno (by rw [hk1, hk2])); obtain ⟨A2, c2, rfl, hr2, _⟩ := ho2.read)
            | (go_at_call 23; (with_reducible refine (rhas_any _ _ _ _ _ hr2).mono ?_); rintro e w3 ⟨rfl, rfl⟩; rw [hnw.out])
            | (go_at_call 15; (with_reducible refine (plive_any _ _ _ _ _ _ hp2 HG2.out).mono ?_); rintro e w3 ⟨rfl, rfl⟩; rw [hlv.out])
            | (at_builtin; refine app_oneB (b := p + 1) 8 Try.underlying36 Try.info23 (by decide) _ _ rfl rfl rfl ho2 hp2.lt hln.out ?_; intro v4 w4 ho4 hc4 _))
          have hx4 : Ext w w4 := ext_of (ext_of HX.out hc2 (fun i h => by omega)) hc4 (fun i h => by have := ho2.from_ i h; omega)
          have hp4 := hp2.chg hc4 (own_not ho2)
          go_roundw
          case rel => exact ⟨k + 1, by omega, by go_num, ⟨_, _, _, hp4, HG2.out, hq2.out, ho4, by simp; omega, hx4⟩⟩
          case measure => simp [intOf]; omega
        · obtain ⟨hE, hL⟩ := take_full hf
          have HE := Lib.hid hE; have HL := Lib.hid hL
          clear hf hE hL
          generalize nth ls k = y at *
          go_wp2_with (first
            | (go_at_call 10; (with_reducible refine (ptake_any _ _ _ _ _ hp HG.out).mono ?_); rintro e w2 ⟨rfl, hp2, hc2⟩; rw [HE.out]; rw [HL.out] at hp2; have ho2 := ho.chg hc2 (fun k hk1 hk2 => hno (by rw [hk1, hk2])); obtain ⟨A2, c2, rfl, hr2, _⟩ := ho2.read)
            | (go_at_call 23; (with_reducible refine (rhas_any _ _ _ _ _ hr2).mono ?_); rintro e w3 ⟨rfl, rfl⟩))
          have hx4 : Ext w w2 := ext_of HX.out hc2 (fun i h => by omega)
          go_roundw
          case rel => exact ⟨k + 1, by omega, by go_num, ⟨_, _, _, hp2, HG.out, HQ.out, ho2, by omega, hx4⟩⟩
          case measure => simp [intOf]; omega
      · have hmem := Lib.hid (fun i (hi : i < (allP g l).length) => all_live HG.out (nth_mem (allP g l) i hi))
        have hal := allQ_le g l
        rcases Nat.eq_zero_or_pos (allP g l).length with h0 | h0
        · have H0 := Lib.hid h0; clear h0
          go_wp2_with (go_at_call 17; (with_reducible refine (pall_any _ _ _ _ _ hp HG.out).mono ?_); rintro e w5 ⟨v5, rfl, ho5, hx5⟩; obtain ⟨A5, c5, rfl, hr5, _⟩ := ho5.read; rw [H0.out])
          have hx4 : Ext w w5 := HX.out.trans hx5
          go_roundw
          case rel => exact ⟨k + 1, by omega, by go_num, ⟨_, _, _, hp.ext hx5, HG.out, HQ.out, ho.ext hx5, by omega, hx4⟩⟩
          case measure => simp [intOf]; omega
        · have hm1 : (0 : Int) ≤ nth ls k % ((allP g l).length : Int) := Int.emod_nonneg _ (by omega)
          have hm2 : nth ls k % ((allP g l).length : Int) < ((allP g l).length : Int) := Int.emod_lt_of_pos _ (by omega)
          have hmod := Lib.hid (show (nth ls k % ((allP g l).length : Int)).toNat < (allP g l).length by omega)
          have hlive := Lib.hid (hmem.out _ hmod.out)
          have HG3 := Lib.hid (HG.out.drop (nth (allP g l) (nth ls k % ((allP g l).length : Int)).toNat))
          have HQ3 := Lib.hid (once_drop HQ.out (nth (allP g l) (nth ls k % ((allP g l).length : Int)).toNat))
          go_wp2_with (first
            | (go_at_call 17; (with_reducible refine (pall_any _ _ _ _ _ hp HG.out).mono ?_); rintro e w5 ⟨v5, rfl, ho5, hx5⟩; obtain ⟨g5, c5, _, rfl, _⟩ := ho5.form h0; have hc5 := (ho5.at_ _ hmod.out).1; have hcl := hcellF.out _ hx5)
            | (go_at_call 13; (with_reducible refine (pdrop_any _ _ _ _ _ _ (hp.ext hx5) HG.out).mono ?_); rintro e w6 ⟨rfl, hp6, hc6⟩; rw [hlive.out]))
          have hx6 : Ext w w6 := ext_of (HX.out.trans hx5) hc6 (fun i h => by omega)
          go_roundw
          case rel => exact ⟨k + 1, by omega, by go_num, ⟨_, _, _, hp6, HG3.out, HQ3.out, (ho.ext hx5).chg hc6 (fun k hk1 hk2 => hno (by rw [hk1, hk2])), by omega, hx6⟩⟩
          case measure => simp [intOf]; omega
    · have hxx := HX.out
      go_wp2_with (go_at_call 8; (with_reducible refine (alive05_any _).mono ?_); rintro e w' ⟨rfl, hx⟩)
      go_ret
      exact ⟨ret_eq rfl, hxx.trans (by assumption)⟩
end Go.Proofs.Ytacfcfllbadhcaa
