/-
  The law PoolPlays, walked. Conditions: none but that the slice lies in memory.
-/
import Derived.Test.YtacfcfllbadhcaaLaw05
set_option linter.unusedVariables false
set_option linter.unusedSimpArgs false
namespace Go.Proofs.Ytacfcfllbadhcaa
open Go.RowKit

theorem allP_le (g : Nat → Nat) (l : Nat → Bool) : (allP g l).length ≤ 256 := allL_len g l 256
attribute [local irreducible] allP
structure Plays (w0 w : World) (p m r : Nat) : Prop where mk ::
  (out : ∃ g l, PoolAt w p r g l ∧ RPoolAt w m r g l ∧ GenOk r g l ∧ Ext w0 w)
theorem eqL_self (xs : List Int) : eqL xs xs = true := by simp [eqL]
set_option maxRecDepth 20000 in
set_option maxHeartbeats 8000000 in
theorem plays_any (room : Int) (A : Option Addr) (c : Nat) (ls : List Int) (id : Int) (w : World) (h : RdK .i64 w A ls) (hb : ∀ n ∈ ls, -9223372036854775808 ≤ n ∧ n ≤ 9223372036854775807) (hid : -9223372036854775808 ≤ id ∧ id ≤ 9223372036854775807) : Calls Try.prog 3 #[.int .i64 room, .slice A ls.length c, .int .i64 id] w fun e w' => e = .returned (.bool true) ∧ Ext w w' := by
  have H := Lib.hid h; clear h
  have HBD := Lib.hid hb; clear hb
  obtain ⟨hid1, hid2⟩ := hid
  by_cases hl : 600 < ls.length
  · go_enter Try.func3, Try.ntmps3
    go_wp2_with (go_at_call 8; (with_reducible refine (alive05_any _).mono ?_); rintro e w' ⟨rfl, hx⟩)
    go_ret
    exact ⟨ret_eq rfl, by (repeat (first | exact Ext.refl _ | assumption | (with_reducible refine Ext.alloc ?_ _) | (with_reducible refine Ext.drew ?_) | (with_reducible refine Ext.drewN ?_ _) | (refine Ext.trans ?_ (by assumption))))⟩
  by_cases hr : room < 0
  · go_enter Try.func3, Try.ntmps3
    go_wp2_with (first | (go_at_call 9; (with_reducible refine (pnew_bad _ _ (.inl hr)).mono ?_); rintro e w' ⟨rfl, rfl⟩) | (go_at_call 8; (with_reducible refine (alive05_any _).mono ?_); rintro e w' ⟨rfl, hx⟩))
    go_ret
    exact ⟨ret_eq rfl, by (repeat (first | exact Ext.refl _ | assumption | (with_reducible refine Ext.alloc ?_ _) | (with_reducible refine Ext.drew ?_) | (with_reducible refine Ext.drewN ?_ _) | (refine Ext.trans ?_ (by assumption))))⟩
  by_cases hr2 : 256 < room
  · go_enter Try.func3, Try.ntmps3
    go_wp2_with (first | (go_at_call 9; (with_reducible refine (pnew_bad _ _ (.inr hr2)).mono ?_); rintro e w' ⟨rfl, rfl⟩) | (go_at_call 8; (with_reducible refine (alive05_any _).mono ?_); rintro e w' ⟨rfl, hx⟩))
    go_ret
    exact ⟨ret_eq rfl, by (repeat (first | exact Ext.refl _ | assumption | (with_reducible refine Ext.alloc ?_ _) | (with_reducible refine Ext.drew ?_) | (with_reducible refine Ext.drewN ?_ _) | (refine Ext.trans ?_ (by assumption))))⟩
  obtain ⟨r, rfl⟩ : ∃ r : Nat, room = (r : Int) := ⟨room.toNat, by omega⟩
  have hr3 : r ≤ 256 := by omega
  have HG0 := Lib.hid (genOk0 hr3)
  go_enter Try.func3, Try.ntmps3
  go_wp2_with (go_at_call 9; (with_reducible refine (pnew_any _ _ hr3).mono ?_); rintro e w1 ⟨rfl, hp1, hx1⟩)
  have hpm : w.heap.size < w1.heap.size := hp1.lt
  go_loopw [10, 11, 12, 13, 14, 15, 16, 17, 18] (fun j _ _ _ _ _ _ _ _ wr => ∃ k : Nat, k ≤ ls.length ∧ j = .int .i64 k ∧ Plays w wr w.heap.size w1.heap.size r) (fun j _ _ _ _ _ _ _ _ _ => ls.length - (intOf j).toNat)
  case atStart =>
    exact ⟨0, by omega, rfl, ⟨g0, l0, hp1.ext ((Ext.refl _).alloc _), rpool_new _ _ _ rfl, HG0.out, hx1.alloc _⟩⟩
  case round =>
    obtain ⟨k, hk, rfl, ⟨g, l, hp, hm, hg, hx⟩⟩ := hrel
    have HG := Lib.hid hg; clear hg
    have HX := Lib.hid hx; clear hx
    by_cases hlt : k < ls.length
    · obtain ⟨ad, rfl, hcell⟩ := (H.out.ext HX.out).2 k hlt
      have hcb : ad.block < w.heap.size := H.out.blk ad rfl (by omega)
      obtain ⟨hy1, hy2⟩ := HBD.out (nth ls k) (nth_mem _ _ hlt)
      have hcellF : ∀ w', Ext wr w' → w'.cell? (ad.add k) = some (.int .i64 (nth ls k)) := fun w' hx => hx.cell hcell
      generalize nth ls k = y at *
      by_cases hy : 0 < y
      · have HG2 := Lib.hid HG.out.take
        go_wp2_with (first
            | (go_at_call 10; (with_reducible refine (ptake_any _ _ _ _ _ hp HG.out).mono ?_); rintro e w2 ⟨rfl, hp2, hc2⟩)
            | (go_at_call 11; (with_reducible refine (rtake_any _ _ _ _ _ (hm.chg hc2 (by omega)) HG.out).mono ?_); rintro e w3 ⟨rfl, hM, hc3⟩; have hP := hp2.chg hc3 (by omega); have hX2 : Ext w w3 := (((HX.out.chg (fun i => w.heap.size ≤ i)).trans hc2 (fun i _ h => by show w.heap.size ≤ i; omega)).trans hc3 (fun i _ h => by show w.heap.size ≤ i; omega)).low (fun i hi h => Nat.lt_irrefl _ (Nat.lt_of_lt_of_le hi h)))
            | (go_at_call 17; (with_reducible refine (pall_any _ _ _ _ _ hP HG2.out).mono ?_); rintro e w5 ⟨v5, rfl, ho5, hx5⟩; obtain ⟨A5, c5, rfl, hr5, _⟩ := ho5.read)
            | (go_at_call 12; (with_reducible refine (rall_any _ _ _ _ _ (hM.ext hx5) HG2.out).mono ?_); rintro e w6 ⟨v6, rfl, ho6, hx6⟩; obtain ⟨A6, c6, rfl, hr6, _⟩ := ho6.read)
            | (go_at_call 16; (with_reducible refine (rsame_any _ _ _ _ _ _ _ (hr5.ext hx6) hr6).mono ?_); rintro e w7 ⟨rfl, hx7⟩; rw [eqL_self])
            | (go_at_call 15; (with_reducible refine (plive_any _ _ _ _ _ _ (hP.ext ((hx5.trans hx6).trans hx7)) HG2.out).mono ?_); rintro e w' ⟨rfl, rfl⟩)
            | (go_at_call 18; (with_reducible refine (rlive_any _ _ _ _ _ _ (hM.ext ((hx5.trans hx6).trans hx7)) HG2.out).mono ?_); rintro e w' ⟨rfl, rfl⟩)
            | (go_at_call 19; (with_reducible refine (plen_any _ _ _ _ _ (hP.ext ((hx5.trans hx6).trans hx7)) HG2.out).mono ?_); rintro e w8 ⟨rfl, hx8⟩)
            | (go_at_call 12; (with_reducible refine (rall_any _ _ _ _ _ (hM.ext (((hx5.trans hx6).trans hx7).trans hx8)) HG2.out).mono ?_); rintro e w9 ⟨v9, rfl, ho9, hx9⟩; obtain ⟨A9, c9, rfl, _, _⟩ := ho9.read))
        go_roundw
        case rel =>
          have hxx := (((hx5.trans hx6).trans hx7).trans hx8).trans hx9
          exact ⟨k + 1, by omega, by go_num, ⟨_, _, hP.ext hxx, hM.ext hxx, HG2.out, hX2.trans hxx⟩⟩
        case measure => simp [intOf]; omega
      · obtain ⟨n, hn⟩ : ∃ n, (allP g l).length = n := ⟨_, rfl⟩
        have HN := Lib.hid hn; clear hn
        have hn256 : n ≤ 256 := HN.out ▸ allP_le g l
        by_cases c1 : 0 < n
        · by_cases c2 : -1000 < y
          · by_cases c3 : y < 0
            · obtain ⟨q, hq⟩ : ∃ q : Nat, -(y + 1) = (q : Int) := ⟨(-(y + 1)).toNat, by omega⟩
              have hqm : q % n < n := Nat.mod_lt _ c1
              have hqm2 : Hid (q % n < (allP g l).length) := by show _ < _; rw [HN.out]; exact hqm
              have HG2 := Lib.hid (HG.out.drop (nth (allP g l) (q % n)))
              have HDR := Lib.hid (dropped (g := g) (l := l) (nth (allP g l) (q % n)))
              go_wp2_with (first
                  | (go_at_call 12; (with_reducible refine (rall_any _ _ _ _ _ hm HG.out).mono ?_); rintro e w1' ⟨v1, rfl, ho1, hx1'⟩; obtain ⟨A1, c1, rfl, hr1, _⟩ := ho1.read; have hcellG := hcellF _ hx1'; obtain ⟨ad1, hA1, hcq⟩ := hr1.2 (q % n) hqm2.out; subst hA1; rw [HN.out])
                  | (go_at_call 13; (with_reducible refine (pdrop_any _ _ _ _ (nth (allP g l) (q % n)) _ (hp.ext hx1') HG.out).mono ?_); rintro e w2 ⟨rfl, hp2, hc2⟩)
                  | (go_at_call 14; (with_reducible refine (rdrop_any _ _ _ _ (nth (allP g l) (q % n)) _ ((hm.ext hx1').chg hc2 (by omega)) HG.out).mono ?_); rintro e w3 ⟨rfl, hM, hc3⟩; have hP := hp2.chg hc3 (by omega); have hX2 : Ext w w3 := ((((HX.out.trans hx1').chg (fun i => w.heap.size ≤ i)).trans hc2 (fun i _ h => by show w.heap.size ≤ i; omega)).trans hc3 (fun i _ h => by show w.heap.size ≤ i; omega)).low (fun i hi h => Nat.lt_irrefl _ (Nat.lt_of_lt_of_le hi h)))
                  | (go_at_call 15; (with_reducible refine (plive_any _ _ _ _ (nth (allP g l) (q % n)) _ hP HG2.out).mono ?_); rintro e w' ⟨rfl, rfl⟩; rw [HDR.out])
                  | (go_at_call 17; (with_reducible refine (pall_any _ _ _ _ _ hP HG2.out).mono ?_); rintro e w5 ⟨v5, rfl, ho5, hx5⟩; obtain ⟨A5, c5, rfl, hr5, _⟩ := ho5.read)
                  | (go_at_call 12; (with_reducible refine (rall_any _ _ _ _ _ (hM.ext hx5) HG2.out).mono ?_); rintro e w6 ⟨v6, rfl, ho6, hx6⟩; obtain ⟨A6, c6, rfl, hr6, _⟩ := ho6.read)
                  | (go_at_call 16; (with_reducible refine (rsame_any _ _ _ _ _ _ _ (hr5.ext hx6) hr6).mono ?_); rintro e w7 ⟨rfl, hx7⟩; rw [eqL_self])
                  | (go_at_call 15; (with_reducible refine (plive_any _ _ _ _ _ _ (hP.ext ((hx5.trans hx6).trans hx7)) HG2.out).mono ?_); rintro e w' ⟨rfl, rfl⟩)
                  | (go_at_call 18; (with_reducible refine (rlive_any _ _ _ _ _ _ (hM.ext ((hx5.trans hx6).trans hx7)) HG2.out).mono ?_); rintro e w' ⟨rfl, rfl⟩)
                  | (go_at_call 19; (with_reducible refine (plen_any _ _ _ _ _ (hP.ext ((hx5.trans hx6).trans hx7)) HG2.out).mono ?_); rintro e w8 ⟨rfl, hx8⟩)
                  | (go_at_call 12; (with_reducible refine (rall_any _ _ _ _ _ (hM.ext (((hx5.trans hx6).trans hx7).trans hx8)) HG2.out).mono ?_); rintro e w9 ⟨v9, rfl, ho9, hx9⟩; obtain ⟨A9, c9, rfl, _, _⟩ := ho9.read))
              go_roundw
              case rel =>
                have hxx := (((hx5.trans hx6).trans hx7).trans hx8).trans hx9
                exact ⟨k + 1, by omega, by go_num, ⟨_, _, hP.ext hxx, hM.ext hxx, HG2.out, hX2.trans hxx⟩⟩
              case measure => simp [intOf]; omega
            · obtain rfl : y = 0 := by omega
              have HG2 := Lib.hid (HG.out.drop (-1))
              have HDR := Lib.hid (dropped (g := g) (l := l) (-1))
              go_wp2_with (first
                  | (go_at_call 12; (with_reducible refine (rall_any _ _ _ _ _ hm HG.out).mono ?_); rintro e w1' ⟨v1, rfl, ho1, hx1'⟩; obtain ⟨A1, c1, rfl, hr1, _⟩ := ho1.read; have hcellG := hcellF _ hx1'; rw [HN.out])
                  | (go_at_call 13; (with_reducible refine (pdrop_any _ _ _ _ (-1) _ (hp.ext hx1') HG.out).mono ?_); rintro e w2 ⟨rfl, hp2, hc2⟩)
                  | (go_at_call 14; (with_reducible refine (rdrop_any _ _ _ _ (-1) _ ((hm.ext hx1').chg hc2 (by omega)) HG.out).mono ?_); rintro e w3 ⟨rfl, hM, hc3⟩; have hP := hp2.chg hc3 (by omega); have hX2 : Ext w w3 := ((((HX.out.trans hx1').chg (fun i => w.heap.size ≤ i)).trans hc2 (fun i _ h => by show w.heap.size ≤ i; omega)).trans hc3 (fun i _ h => by show w.heap.size ≤ i; omega)).low (fun i hi h => Nat.lt_irrefl _ (Nat.lt_of_lt_of_le hi h)))
                  | (go_at_call 15; (with_reducible refine (plive_any _ _ _ _ (-1) _ hP HG2.out).mono ?_); rintro e w' ⟨rfl, rfl⟩; rw [HDR.out])
                  | (go_at_call 17; (with_reducible refine (pall_any _ _ _ _ _ hP HG2.out).mono ?_); rintro e w5 ⟨v5, rfl, ho5, hx5⟩; obtain ⟨A5, c5, rfl, hr5, _⟩ := ho5.read)
                  | (go_at_call 12; (with_reducible refine (rall_any _ _ _ _ _ (hM.ext hx5) HG2.out).mono ?_); rintro e w6 ⟨v6, rfl, ho6, hx6⟩; obtain ⟨A6, c6, rfl, hr6, _⟩ := ho6.read)
                  | (go_at_call 16; (with_reducible refine (rsame_any _ _ _ _ _ _ _ (hr5.ext hx6) hr6).mono ?_); rintro e w7 ⟨rfl, hx7⟩; rw [eqL_self])
                  | (go_at_call 15; (with_reducible refine (plive_any _ _ _ _ _ _ (hP.ext ((hx5.trans hx6).trans hx7)) HG2.out).mono ?_); rintro e w' ⟨rfl, rfl⟩)
                  | (go_at_call 18; (with_reducible refine (rlive_any _ _ _ _ _ _ (hM.ext ((hx5.trans hx6).trans hx7)) HG2.out).mono ?_); rintro e w' ⟨rfl, rfl⟩)
                  | (go_at_call 19; (with_reducible refine (plen_any _ _ _ _ _ (hP.ext ((hx5.trans hx6).trans hx7)) HG2.out).mono ?_); rintro e w8 ⟨rfl, hx8⟩)
                  | (go_at_call 12; (with_reducible refine (rall_any _ _ _ _ _ (hM.ext (((hx5.trans hx6).trans hx7).trans hx8)) HG2.out).mono ?_); rintro e w9 ⟨v9, rfl, ho9, hx9⟩; obtain ⟨A9, c9, rfl, _, _⟩ := ho9.read))
              go_roundw
              case rel =>
                have hxx := (((hx5.trans hx6).trans hx7).trans hx8).trans hx9
                exact ⟨k + 1, by omega, by go_num, ⟨_, _, hP.ext hxx, hM.ext hxx, HG2.out, hX2.trans hxx⟩⟩
              case measure => simp [intOf]; omega
          · have HG2 := Lib.hid (HG.out.drop (-(y + 1)))
            have HDR := Lib.hid (dropped (g := g) (l := l) (-(y + 1)))
            go_wp2_with (first
                | (go_at_call 12; (with_reducible refine (rall_any _ _ _ _ _ hm HG.out).mono ?_); rintro e w1' ⟨v1, rfl, ho1, hx1'⟩; obtain ⟨A1, c1, rfl, hr1, _⟩ := ho1.read; have hcellG := hcellF _ hx1'; rw [HN.out])
                | (go_at_call 13; (with_reducible refine (pdrop_any _ _ _ _ (-(y + 1)) _ (hp.ext hx1') HG.out).mono ?_); rintro e w2 ⟨rfl, hp2, hc2⟩)
                | (go_at_call 14; (with_reducible refine (rdrop_any _ _ _ _ (-(y + 1)) _ ((hm.ext hx1').chg hc2 (by omega)) HG.out).mono ?_); rintro e w3 ⟨rfl, hM, hc3⟩; have hP := hp2.chg hc3 (by omega); have hX2 : Ext w w3 := ((((HX.out.trans hx1').chg (fun i => w.heap.size ≤ i)).trans hc2 (fun i _ h => by show w.heap.size ≤ i; omega)).trans hc3 (fun i _ h => by show w.heap.size ≤ i; omega)).low (fun i hi h => Nat.lt_irrefl _ (Nat.lt_of_lt_of_le hi h)))
                | (go_at_call 15; (with_reducible refine (plive_any _ _ _ _ (-(y + 1)) _ hP HG2.out).mono ?_); rintro e w' ⟨rfl, rfl⟩; rw [HDR.out])
                | (go_at_call 17; (with_reducible refine (pall_any _ _ _ _ _ hP HG2.out).mono ?_); rintro e w5 ⟨v5, rfl, ho5, hx5⟩; obtain ⟨A5, c5, rfl, hr5, _⟩ := ho5.read)
                | (go_at_call 12; (with_reducible refine (rall_any _ _ _ _ _ (hM.ext hx5) HG2.out).mono ?_); rintro e w6 ⟨v6, rfl, ho6, hx6⟩; obtain ⟨A6, c6, rfl, hr6, _⟩ := ho6.read)
                | (go_at_call 16; (with_reducible refine (rsame_any _ _ _ _ _ _ _ (hr5.ext hx6) hr6).mono ?_); rintro e w7 ⟨rfl, hx7⟩; rw [eqL_self])
                | (go_at_call 15; (with_reducible refine (plive_any _ _ _ _ _ _ (hP.ext ((hx5.trans hx6).trans hx7)) HG2.out).mono ?_); rintro e w' ⟨rfl, rfl⟩)
                | (go_at_call 18; (with_reducible refine (rlive_any _ _ _ _ _ _ (hM.ext ((hx5.trans hx6).trans hx7)) HG2.out).mono ?_); rintro e w' ⟨rfl, rfl⟩)
                | (go_at_call 19; (with_reducible refine (plen_any _ _ _ _ _ (hP.ext ((hx5.trans hx6).trans hx7)) HG2.out).mono ?_); rintro e w8 ⟨rfl, hx8⟩)
                | (go_at_call 12; (with_reducible refine (rall_any _ _ _ _ _ (hM.ext (((hx5.trans hx6).trans hx7).trans hx8)) HG2.out).mono ?_); rintro e w9 ⟨v9, rfl, ho9, hx9⟩; obtain ⟨A9, c9, rfl, _, _⟩ := ho9.read))
            go_roundw
            case rel =>
              have hxx := (((hx5.trans hx6).trans hx7).trans hx8).trans hx9
              exact ⟨k + 1, by omega, by go_num, ⟨_, _, hP.ext hxx, hM.ext hxx, HG2.out, hX2.trans hxx⟩⟩
            case measure => simp [intOf]; omega
        · have HG2 := Lib.hid (HG.out.drop (-(y + 1)))
          have HDR := Lib.hid (dropped (g := g) (l := l) (-(y + 1)))
          go_wp2_with (first
              | (go_at_call 12; (with_reducible refine (rall_any _ _ _ _ _ hm HG.out).mono ?_); rintro e w1' ⟨v1, rfl, ho1, hx1'⟩; obtain ⟨A1, c1, rfl, hr1, _⟩ := ho1.read; have hcellG := hcellF _ hx1'; rw [HN.out])
              | (go_at_call 13; (with_reducible refine (pdrop_any _ _ _ _ (-(y + 1)) _ (hp.ext hx1') HG.out).mono ?_); rintro e w2 ⟨rfl, hp2, hc2⟩)
              | (go_at_call 14; (with_reducible refine (rdrop_any _ _ _ _ (-(y + 1)) _ ((hm.ext hx1').chg hc2 (by omega)) HG.out).mono ?_); rintro e w3 ⟨rfl, hM, hc3⟩; have hP := hp2.chg hc3 (by omega); have hX2 : Ext w w3 := ((((HX.out.trans hx1').chg (fun i => w.heap.size ≤ i)).trans hc2 (fun i _ h => by show w.heap.size ≤ i; omega)).trans hc3 (fun i _ h => by show w.heap.size ≤ i; omega)).low (fun i hi h => Nat.lt_irrefl _ (Nat.lt_of_lt_of_le hi h)))
              | (go_at_call 15; (with_reducible refine (plive_any _ _ _ _ (-(y + 1)) _ hP HG2.out).mono ?_); rintro e w' ⟨rfl, rfl⟩; rw [HDR.out])
              | (go_at_call 17; (with_reducible refine (pall_any _ _ _ _ _ hP HG2.out).mono ?_); rintro e w5 ⟨v5, rfl, ho5, hx5⟩; obtain ⟨A5, c5, rfl, hr5, _⟩ := ho5.read)
              | (go_at_call 12; (with_reducible refine (rall_any _ _ _ _ _ (hM.ext hx5) HG2.out).mono ?_); rintro e w6 ⟨v6, rfl, ho6, hx6⟩; obtain ⟨A6, c6, rfl, hr6, _⟩ := ho6.read)
              | (go_at_call 16; (with_reducible refine (rsame_any _ _ _ _ _ _ _ (hr5.ext hx6) hr6).mono ?_); rintro e w7 ⟨rfl, hx7⟩; rw [eqL_self])
              | (go_at_call 15; (with_reducible refine (plive_any _ _ _ _ _ _ (hP.ext ((hx5.trans hx6).trans hx7)) HG2.out).mono ?_); rintro e w' ⟨rfl, rfl⟩)
              | (go_at_call 18; (with_reducible refine (rlive_any _ _ _ _ _ _ (hM.ext ((hx5.trans hx6).trans hx7)) HG2.out).mono ?_); rintro e w' ⟨rfl, rfl⟩)
              | (go_at_call 19; (with_reducible refine (plen_any _ _ _ _ _ (hP.ext ((hx5.trans hx6).trans hx7)) HG2.out).mono ?_); rintro e w8 ⟨rfl, hx8⟩)
              | (go_at_call 12; (with_reducible refine (rall_any _ _ _ _ _ (hM.ext (((hx5.trans hx6).trans hx7).trans hx8)) HG2.out).mono ?_); rintro e w9 ⟨v9, rfl, ho9, hx9⟩; obtain ⟨A9, c9, rfl, _, _⟩ := ho9.read))
          go_roundw
          case rel =>
            have hxx := (((hx5.trans hx6).trans hx7).trans hx8).trans hx9
            exact ⟨k + 1, by omega, by go_num, ⟨_, _, hP.ext hxx, hM.ext hxx, HG2.out, hX2.trans hxx⟩⟩
          case measure => simp [intOf]; omega
    · obtain rfl : k = ls.length := by omega
      cases hri : rightB id
      · have hI : Hid (ixV id = -1 ∧ genV id = -1) := by show _ ∧ _; simp [ixV, genV, hri]
        go_wp2_with (first
          | (go_at_call 20; (with_reducible refine (rright_any _ _).mono ?_); rintro e w' ⟨rfl, rfl⟩)
          | (go_at_call 21; (with_reducible refine (pindex_any _ _).mono ?_); rintro e w' ⟨rfl, rfl⟩; rw [hI.out.1])
          | (go_at_call 22; (with_reducible refine (pgen_any _ _).mono ?_); rintro e w' ⟨rfl, rfl⟩; rw [hI.out.2])
          | (go_at_call 10; (with_reducible refine (ptake_nil _).mono ?_); rintro e w' ⟨rfl, rfl⟩)
          | (go_at_call 13; (with_reducible refine (pdrop_nil _ _).mono ?_); rintro e w' ⟨rfl, rfl⟩)
          | (go_at_call 15; (with_reducible refine (plive_nil _ _).mono ?_); rintro e w' ⟨rfl, rfl⟩)
          | (go_at_call 17; (with_reducible refine (pall_nil _).mono ?_); rintro e w' ⟨rfl, rfl⟩)
          | (go_at_call 19; (with_reducible refine (plen_nil _).mono ?_); rintro e w' ⟨rfl, rfl⟩)
          | (go_at_call 8; (with_reducible refine (alive05_any _).mono ?_); rintro e w' ⟨rfl, hx⟩))
        go_ret
        exact ⟨ret_eq rfl, HX.out.trans hx⟩
      · have hI : Hid (ixV id = id % 256 ∧ genV id = id / 256) := by show _ ∧ _; simp [ixV, genV, hri]
        have hi3 : 0 ≤ id ∧ id < 16777216 := by simp [rightB] at hri; omega
        obtain ⟨hi3, hi4⟩ := hi3
        go_wp2_with (first
          | (go_at_call 20; (with_reducible refine (rright_any _ _).mono ?_); rintro e w' ⟨rfl, rfl⟩)
          | (go_at_call 21; (with_reducible refine (pindex_any _ _).mono ?_); rintro e w' ⟨rfl, rfl⟩; rw [hI.out.1])
          | (go_at_call 22; (with_reducible refine (pgen_any _ _).mono ?_); rintro e w' ⟨rfl, rfl⟩; rw [hI.out.2])
          | (go_at_call 10; (with_reducible refine (ptake_nil _).mono ?_); rintro e w' ⟨rfl, rfl⟩)
          | (go_at_call 13; (with_reducible refine (pdrop_nil _ _).mono ?_); rintro e w' ⟨rfl, rfl⟩)
          | (go_at_call 15; (with_reducible refine (plive_nil _ _).mono ?_); rintro e w' ⟨rfl, rfl⟩)
          | (go_at_call 17; (with_reducible refine (pall_nil _).mono ?_); rintro e w' ⟨rfl, rfl⟩)
          | (go_at_call 19; (with_reducible refine (plen_nil _).mono ?_); rintro e w' ⟨rfl, rfl⟩)
          | (go_at_call 8; (with_reducible refine (alive05_any _).mono ?_); rintro e w' ⟨rfl, hx⟩))
        go_ret
        exact ⟨ret_eq rfl, HX.out.trans hx⟩
end Go.Proofs.Ytacfcfllbadhcaa
