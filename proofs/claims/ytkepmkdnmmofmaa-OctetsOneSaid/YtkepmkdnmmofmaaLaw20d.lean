/-
  The law OctetsOne, walked. Conditions: none but that the slices lie in memory, and that the first is of bytes.
-/
import Derived.Test.YtkepmkdnmmofmaaOct5
import Derived.Test.YtkepmkdnmmofmaaLaw20c
set_option linter.unusedVariables false
set_option linter.unusedSimpArgs false
namespace Go.Proofs.Ytkepmkdnmmofmaa
open Go.RowKit

theorem Try.info3 : (Try.prog.info? 3).map (fun i => (i.zero, i.size, i.bytes)) = some (some (.int .i64 0), 1, 8) := by kernel_rfl
/-- The reader, and the numbers it has told. -/
structure Reading (w0 : World) (b p : Nat) (xs : List Int) (k : Nat) (v : Value) (w : World) : Prop where mk ::
  (out : ∃ A c ys f gs, Rd2 93 w p A c ys f ∧ Own 3 .i64 b w v gs ∧ (∀ ad, A = some ad → w0.heap.size ≤ ad.block ∧ ad.block < b) ∧ w0.heap.size ≤ p ∧ p < b ∧ Ext w0 w ∧ b ≤ w.heap.size ∧ gs.length = k ∧ badF gs gs.length = false ∧ (f = false → xs = encF gs gs.length ++ ys ∧ ys.length + k ≤ xs.length))
/-- The other reader reads what was written. -/
structure Again (w0 : World) (p : Nat) (ls : List Int) (k : Nat) (w : World) : Prop where mk ::
  (out : ∃ A c, Rd2 93 w p A c (encS ls k) false ∧ (∀ ad, A = some ad → w0.heap.size ≤ ad.block) ∧ w0.heap.size ≤ p ∧ Ext w0 w)
set_option maxRecDepth 20000 in
set_option maxHeartbeats 8000000 in
theorem ones_any (A : Option Addr) (c : Nat) (xs : List Int) (B : Option Addr) (d : Nat) (ls : List Int) (w : World) (h : RdK .u8 w A xs) (hb : Bytes xs) (h2 : RdK .i64 w B ls) : Calls Try.prog 12 #[.slice A xs.length c, .slice B ls.length d] w fun e w' => e = .returned (.bool true) ∧ Ext w w' := by
  have H := Lib.hid h; clear h
  have HB := Lib.hid hb; clear hb
  have H2 := Lib.hid h2; clear h2
  by_cases hl : 2000 < xs.length
  · go_enter Try.func12, Try.ntmps12
    go_wp2_with (go_at_call 42; (with_reducible refine (alive20_any _).mono ?_); rintro e w' ⟨rfl, hx⟩)
    go_ret
    exact ⟨ret_eq rfl, by (repeat (first | exact Ext.refl _ | assumption | (with_reducible refine Ext.alloc ?_ _) | (with_reducible refine Ext.drew ?_) | (with_reducible refine Ext.drewN ?_ _) | (refine Ext.trans ?_ (by assumption))))⟩
  by_cases hl2 : 200 < ls.length
  · go_enter Try.func12, Try.ntmps12
    go_wp2_with (go_at_call 42; (with_reducible refine (alive20_any _).mono ?_); rintro e w' ⟨rfl, hx⟩)
    go_ret
    exact ⟨ret_eq rfl, by (repeat (first | exact Ext.refl _ | assumption | (with_reducible refine Ext.alloc ?_ _) | (with_reducible refine Ext.drew ?_) | (with_reducible refine Ext.drewN ?_ _) | (refine Ext.trans ?_ (by assumption))))⟩
  have HL : Hid (xs.length ≤ 140737488355328) := by show _ ≤ _; omega
  go_enter Try.func12, Try.ntmps12
  go_wp2_with (go_at_call 46; (with_reducible refine (read_any _ _ _ _ H.out HB.out HL.out).mono ?_); rintro e w1 ⟨p, A1, c1, rfl, hp, hr1, hn1, hx1⟩)
  go_loopw [6, 7] (fun v j wr => ∃ k : Nat, k ≤ xs.length ∧ j = .int .i64 k ∧ ∃ v0, v0 = v ∧ Reading w w1.heap.size p xs k v0 wr) (fun _ j _ => xs.length - (intOf j).toNat)
  case atStart =>
    exact ⟨0, by omega, rfl, _, rfl, ⟨A1, c1, xs, false, [], hr1, Own.nil _ _ _ _, hn1, hp, hr1.lies.lt, hx1, Nat.le_refl _, rfl, rfl, fun _ => ⟨rfl, by omega⟩⟩⟩
  case round =>
    obtain ⟨k, hk, rfl, v, rfl, ⟨A2, c2, ys, f, gs, hr2, ho2, hn2, hpw, hpb, hx2, hbs, hgl, hgb, hgf⟩⟩ := hrel
    have HG := Lib.hid hgf; clear hgf
    have HGB := Lib.hid hgb; clear hgb
    have HN2 := Lib.hid hn2; clear hn2
    by_cases hgo : k < xs.length ∧ 0 < leftV ys f
    · obtain ⟨hg1, hg2⟩ := hgo
      obtain rfl : f = false := by cases f; rfl; simp [leftV] at hg2
      have hM := get_back hr2.bytes
      have hlen : ys.length + k ≤ xs.length := (HG.out rfl).2
      have HG1 := Lib.hid (HG.out rfl).1
      have hsz : Hid (w1.heap.size ≤ wr.heap.size) := by
        exact hbs
      have HGL := Lib.hid hgl
      have hln : Hid ((gs.length + 1) * 8 ≤ 140737488355328) := by show _ ≤ _; omega
      have hvb : ∀ i, v.ownBlock = some i → w1.heap.size ≤ i := fun i hi => (ho2.lt i hi).1
      have HVB := Lib.hid hvb; clear hvb hgl
      have hok := getV_okW ys false 1099511627776
      have HM := Lib.hid hM; clear hM
      have HOK := Lib.hid hok; clear hok
      go_wp2_with (first
        | (go_at_call 50; (with_reducible refine (left_any _ _ _ _ _ _ hr2).mono ?_); rintro e w' ⟨rfl, rfl⟩)
        | (go_at_call 47; (with_reducible refine (get_any _ _ _ _ _ _ _ hr2).mono ?_); rintro e w3 ⟨rfl, ⟨A3, c3, hr3, hc3, hs3⟩⟩; have ho3 := ho2.chg hc3 (fun i hi he => by have := HVB.out i hi; omega))
        | (at_builtin; refine app_oneB (b := w1.heap.size) 8 Try.underlying24 Try.info3 (by decide) _ gs rfl rfl rfl ho3 (Nat.le_trans hsz.out hc3.size) hln.out ?_; intro v4 w4 ho4 hc4 hf4))
      go_roundw
      case rel =>
        have hbn : ∀ ad, A3 = some ad → w.heap.size ≤ ad.block ∧ ad.block < w1.heap.size := fun ad e => by
          obtain ⟨a0, e1, e2⟩ := hs3 ad e
          rw [e2]; exact HN2.out a0 e1
        have he := enc_snoc gs (getV ys false 1099511627776) HOK.out
        have hx1s := hx1.size
        refine ⟨k + 1, by omega, by go_num, _, rfl, ⟨A3, c3, _, _, _, hr3.chg hc4 (fun h => by have := HVB.out p h; omega) (fun ad e h => by have := HVB.out _ h; have := (hbn ad e).2; omega), ho4, hbn, hpw, hpb, ?_, Nat.le_trans hsz.out (Nat.le_trans hc3.size hc4.size), ?_, ?_, ?_⟩⟩
        · refine (((hx2.chg (fun i => w.heap.size ≤ i)).trans hc3 (fun i _ h => ?_)).trans hc4 (fun i _ h => ?_)).low (fun i hi h => by omega)
          · show w.heap.size ≤ i
            omega
          · have := HVB.out i h
            show w.heap.size ≤ i
            omega
        · simp [HGL.out]
        · rw [he.2]; exact HGB.out
        · intro hf
          have h1 := HM.out hf
          have h2 := HG1.out
          refine ⟨?_, by have := h1.2; omega⟩
          rw [he.1, List.append_assoc, ← h1.1]
          exact h2
      case measure => simp [intOf]; omega
    · have hend : f = false → ys = [] := by
        rintro rfl
        have h1 := (HG.out rfl).2
        refine List.eq_nil_of_length_eq_zero ?_
        rcases Nat.eq_zero_or_pos ys.length with h0 | h0
        · exact h0
        · exact absurd ⟨by omega, by simp [leftV]; omega⟩ hgo
      have hfs : f = true ∨ (f = false ∧ ((strOfNums (encF gs gs.length)).toList == (strOfNums xs).toList) = true ∧ ((strOfNums (encF gs gs.length)).toList != (strOfNums xs).toList) = false) := by
        cases f
        · have e := (HG.out rfl).1
          rw [hend rfl, List.append_nil] at e
          rw [← e]
          exact .inr ⟨rfl, by simp, by simp⟩
        · exact .inl rfl
      clear hend
      have hgl2 : gs.length ≤ 2000 := by omega
      have HGL := Lib.hid hgl; clear hgl
      obtain ⟨Ag, cg, rfl, hrg, _⟩ := ho2.read
      have hbg := ho2.blk
      have HBG := Lib.hid hbg; clear hbg
      have hA : Hid (∀ ad, Ag = some ad → 0 < gs.length → ¬ WF wr.heap.size (.slice none 0 0) ad.block) := by
        rintro ad e h0 (h1 | h1)
        · have := (HBG.out ad e).2.1; omega
        · simp [Value.ownBlock] at h1
      have HA5 : Hid (∀ n, w.heap.size ≤ n → ∀ ad, B = some ad → 0 < ls.length → ¬ WF n (.slice none 0 0) ad.block) := by
        rintro n hn ad e h0 (h1 | h1)
        · have := H2.out.blk ad e h0; omega
        · simp [Value.ownBlock] at h1
      have HL3 : Hid (([] : List Int).length + 6 * gs.length ≤ 140737488355000) := by show _ ≤ _; simp; omega
      have HL4 : Hid ((encF gs gs.length).length ≤ 140737488355328) := by have := encF_length gs gs.length; show _ ≤ _; omega
      have HL5 : Hid (([] : List Int).length + 6 * ls.length ≤ 140737488355000) := by show _ ≤ _; simp; omega
      have HL6 : Hid ((encF ls ls.length).length ≤ 140737488355328) := by have := encF_length ls ls.length; show _ ≤ _; omega
      have HEB : Hid (Bytes (encF ls ls.length)) := encF_bytes _ _
      have HES := Lib.hid (encF_all ls)
      by_cases hk1 : k < xs.length
      · have hk2 : leftV ys f ≤ 0 := by
          rcases Int.lt_or_le 0 (leftV ys f) with h1 | h1
          · exact absurd ⟨hk1, h1⟩ hgo
          · exact h1
        clear hgo
        rcases hfs with rfl | ⟨rfl, hinj, hinj'⟩
        · cases hbl : badF ls ls.length
          · go_wp2_with (first
                      | (go_at_call 50; (with_reducible refine (left_any _ _ _ _ _ _ hr2).mono ?_); rintro e w' ⟨rfl, rfl⟩)
                      | (go_at_call 43; (with_reducible refine (put_any wr.heap.size _ _ _ _ _ _ _ _ (hrg.ext ((Ext.refl _).alloc _)) (Wr.new _ _ _ rfl (Nat.le_refl _)) hA.out HL3.out).mono ?_); rintro e w3 ⟨rfl, v3, hw3, hc3, hf3⟩; simp only [List.nil_append, Bool.false_or] at hw3; rw [HGB.out] at hw3; have hx3 : Ext wr w3 := ((((Ext.refl wr).alloc _).chg (fun i => wr.heap.size ≤ i)).trans hc3 (fun i _ h => (Wr.new _ _ _ rfl (Nat.le_refl _)).base h)).low (fun i hi h => Nat.lt_irrefl _ (Nat.lt_of_lt_of_le hi h)))
                      | (go_at_call 44; (with_reducible refine (wbytes_ok _ _ _ _ _ hw3 HL4.out).mono ?_); rintro e w4 ⟨v4, rfl, ho4, hx4⟩; obtain ⟨A4, c4, rfl, hr4, _⟩ := ho4.read; have k1 := run_str (P := Try.prog) hr4 33 5 9 Try.underlying33 Try.underlying5 Try.underlying9 c4; have k2 := run_str (P := Try.prog) (H.out.ext ((hx2.trans hx3).trans hx4)) 33 5 9 Try.underlying33 Try.underlying5 Try.underlying9 c)
                      | (go_at_call 49; (with_reducible refine (rfailed_any _ _ _ _ _ _ (hr2.ext (hx3.trans hx4))).mono ?_); rintro e w' ⟨rfl, rfl⟩)
                      | (go_at_call 43; (with_reducible refine (put_any w4.heap.size _ _ _ _ _ _ _ _ (H2.out.ext (((hx2.trans hx3).trans hx4).alloc _)) (Wr.new _ _ _ rfl (Nat.le_refl _)) (HA5.out _ ((hx2.trans hx3).trans hx4).size) HL5.out).mono ?_); rintro e w5 ⟨rfl, v5, hw5, hc5, hf5⟩; simp only [List.nil_append, Bool.false_or] at hw5; rw [hbl] at hw5; have hx5 : Ext w4 w5 := ((((Ext.refl w4).alloc _).chg (fun i => w4.heap.size ≤ i)).trans hc5 (fun i _ h => (Wr.new _ _ _ rfl (Nat.le_refl _)).base h)).low (fun i hi h => Nat.lt_irrefl _ (Nat.lt_of_lt_of_le hi h)))
                      | (go_at_call 44; (with_reducible refine (wbytes_ok _ _ _ _ _ hw5 HL6.out).mono ?_); rintro e w6 ⟨v6, rfl, ho6, hx6⟩; obtain ⟨A6, c6, rfl, hr6, _⟩ := ho6.read)
                      | (go_at_call 46; (with_reducible refine (read_any _ _ _ _ hr6 HEB.out HL6.out).mono ?_); rintro e w7 ⟨p7, A7, c7, rfl, hp7, hr7, hn7, hx7⟩; have hx07 : Ext w w7 := ((((hx2.trans hx3).trans hx4).trans hx5).trans hx6).trans hx7; have hs07 : w.heap.size ≤ w6.heap.size := ((((hx2.trans hx3).trans hx4).trans hx5).trans hx6).size; rw [HES.out] at hr7))
            have HBL := Lib.hid hbl
            clear hr4 k1 k2 hw3 hw5 hr6
            go_loopw [15] (fun j wr => ∃ k : Nat, k ≤ ls.length ∧ j = .int .i64 k ∧ Again w p7 ls k wr) (fun j _ => ls.length - (intOf j).toNat)
            case atStart => exact ⟨0, by omega, rfl, ⟨A7, c7, hr7, fun ad e => by have := (hn7 ad e).1; omega, by omega, hx07⟩⟩
            case round =>
              obtain ⟨k, hk, rfl, ⟨A8, c8, hr8, hn8, hp8, hx8⟩⟩ := hrel
              by_cases hlt : k < ls.length
              · obtain ⟨ad, rfl, hcell⟩ := (H2.out.ext hx8).2 k hlt
                have hcb : ad.block < w.heap.size := H2.out.blk ad rfl (by omega)
                have hyk := badF_ok HBL.out k hlt
                have hst := encS_step ls k hlt
                rw [encB, if_pos hyk] at hst
                have hgo := get_one hyk (encS ls (k + 1))
                rw [← hst] at hgo
                have HGO := Lib.hid hgo; clear hgo hst
                have hcell5 : ∀ w', Chg (fun i => i = p7) wr w' → w'.cell? (ad.add k) = some (.int .i64 (nth ls k)) := fun w' hx => hx.cell (by rw [add_block]; intro he; omega) hcell
                clear hcell
                go_wp2
                refine wp_region_held_drew (S := fun w' => Chg (fun i => i = p7) wr w') (by kernel_rfl) (by exact ((Ext.refl _).drew).chg _) (fun hHeld => ?_)
                refine wpAnyH_take (i := 0) (oi := { dst := some 91, op := Op.move (Operand.tmp 14), type := 66, pos := "law.go:81", after := #[], guard := none }) (v := ?_) rfl (by kernel_rfl) (by kernel_rfl) (by kernel_rfl) (fun _ _ _ h => h) (Or.inl ⟨by rfl, ?_⟩) (by assumption) ?_
                rotate_left
                · (intro w' hSw; go_simp; try with_reducible rfl)
                try simp only [Act.put, List.setIfInBounds_toArray, List.set_cons_zero, List.set_cons_succ]
                refine wpAnyH_take (i := 1) (oi := { dst := some 92, op := Op.move (Operand.tmp 1), type := 24, pos := "law.go:81", after := #[], guard := none }) (v := ?_) rfl (by kernel_rfl) (by kernel_rfl) (by kernel_rfl) (fun _ _ _ h => h) (Or.inl ⟨by rfl, ?_⟩) (by assumption) ?_
                rotate_left
                · (intro w' hSw; go_simp; try with_reducible rfl)
                try simp only [Act.put, List.setIfInBounds_toArray, List.set_cons_zero, List.set_cons_succ]
                refine wpAnyH_take (i := 2) (oi := { dst := some 93, op := Op.move (Operand.tmp 15), type := 3, pos := "law.go:81", after := #[], guard := none }) (v := ?_) rfl (by kernel_rfl) (by kernel_rfl) (by kernel_rfl) (fun _ _ _ h => h) (Or.inl ⟨by rfl, ?_⟩) (by assumption) ?_
                rotate_left
                · (intro w' hSw; go_simp; try with_reducible rfl)
                try simp only [Act.put, List.setIfInBounds_toArray, List.set_cons_zero, List.set_cons_succ]
                refine wpAnyH_take (i := 3) (oi := { dst := some 94, op := Op.indexAddr 24 (Operand.tmp 92) (Operand.tmp 93), type := 0, pos := "law.go:81", after := #[{ on := 1, ground := Ground.data }, { on := 2, ground := Ground.data }], guard := none }) (v := ?_) rfl (by kernel_rfl) (by kernel_rfl) (by kernel_rfl) (fun _ _ _ h => h) (Or.inl ⟨by rfl, ?_⟩) (by assumption) ?_
                rotate_left
                · (intro w' hSw; go_simp; try with_reducible rfl)
                try simp only [Act.put, List.setIfInBounds_toArray, List.set_cons_zero, List.set_cons_succ]
                refine wpAnyH_take (i := 4) (oi := { dst := some 95, op := Op.load 3 (Operand.tmp 94), type := 3, pos := "law.go:81", after := #[{ on := 3, ground := Ground.data }], guard := none }) (v := ?_) rfl (by kernel_rfl) (by kernel_rfl) (by kernel_rfl) (fun _ _ _ h => h) (Or.inl ⟨by rfl, ?_⟩) (by assumption) ?_
                rotate_left
                · (intro w' hSw; go_simp; try with_reducible rfl)
                try simp only [Act.put, List.setIfInBounds_toArray, List.set_cons_zero, List.set_cons_succ]
                refine wpAnyH_take (i := 6) (oi := { dst := some 97, op := Op.move (Operand.tmp 1), type := 24, pos := "law.go:81", after := #[], guard := none }) (v := ?_) rfl (by kernel_rfl) (by kernel_rfl) (by kernel_rfl) (fun _ _ _ h => h) (Or.inl ⟨by rfl, ?_⟩) (by assumption) ?_
                rotate_left
                · (intro w' hSw; go_simp; try with_reducible rfl)
                try simp only [Act.put, List.setIfInBounds_toArray, List.set_cons_zero, List.set_cons_succ]
                refine wpAnyH_take (i := 7) (oi := { dst := some 98, op := Op.move (Operand.tmp 15), type := 3, pos := "law.go:81", after := #[], guard := none }) (v := ?_) rfl (by kernel_rfl) (by kernel_rfl) (by kernel_rfl) (fun _ _ _ h => h) (Or.inl ⟨by rfl, ?_⟩) (by assumption) ?_
                rotate_left
                · (intro w' hSw; go_simp; try with_reducible rfl)
                try simp only [Act.put, List.setIfInBounds_toArray, List.set_cons_zero, List.set_cons_succ]
                refine wpAnyH_take (i := 8) (oi := { dst := some 99, op := Op.indexAddr 24 (Operand.tmp 97) (Operand.tmp 98), type := 0, pos := "law.go:81", after := #[{ on := 6, ground := Ground.data }, { on := 7, ground := Ground.data }], guard := none }) (v := ?_) rfl (by kernel_rfl) (by kernel_rfl) (by kernel_rfl) (fun _ _ _ h => h) (Or.inl ⟨by rfl, ?_⟩) (by assumption) ?_
                rotate_left
                · (intro w' hSw; go_simp; try with_reducible rfl)
                try simp only [Act.put, List.setIfInBounds_toArray, List.set_cons_zero, List.set_cons_succ]
                refine wpAnyH_take (i := 9) (oi := { dst := some 100, op := Op.load 3 (Operand.tmp 99), type := 3, pos := "law.go:81", after := #[{ on := 8, ground := Ground.data }], guard := none }) (v := ?_) rfl (by kernel_rfl) (by kernel_rfl) (by kernel_rfl) (fun _ _ _ h => h) (Or.inl ⟨by rfl, ?_⟩) (by assumption) ?_
                rotate_left
                · (intro w' hSw; go_simp; try with_reducible rfl)
                try simp only [Act.put, List.setIfInBounds_toArray, List.set_cons_zero, List.set_cons_succ]
                refine wpAnyH_ready (rs := [5]) (by kernel_rfl) (by simp) ?_
                refine AllReadyH.cons (o := { dst := some 96, op := Op.call { callee := Callee.value (Operand.func 47), args := #[Operand.tmp 91, Operand.tmp 95], argTypes := #[66, 3] }, type := 3, pos := "law.go:81", after := #[{ on := 0, ground := Ground.data }, { on := 4, ground := Ground.data }], guard := none }) rfl (fun K hK => ?_) AllReadyH.nil
                go_simp
                (go_at_call 47; (with_reducible refine (get_any _ _ _ _ _ _ _ (hr8.ext ((Ext.refl _).drew))).mono ?_); rintro e w9 ⟨rfl, ⟨A9, c9, hr9, hc9, hs9⟩⟩; rw [HGO.out.1, HGO.out.2.2] at hr9; rw [HGO.out.2.1])
                refine hK.out _ _ ?_ (fun hHeld => ?_)
                · exact (((Ext.refl wr).drew).chg _).trans hc9 (fun _ _ h => h)
                clear hK K
                try simp only [Act.put, List.setIfInBounds_toArray, List.set_cons_zero, List.set_cons_succ]
                have hc10 : Chg (fun i => i = p7) wr w9 := (((Ext.refl wr).drew).chg _).trans hc9 (fun _ _ h => h)
                refine wpAnyH_mono' (S' := fun w' => Ext w9 w') (fun w' hw' => hc10.ext hw') ?_
                replace hHeld : Ext w9 w9 := Ext.refl _
                have hr10 := fun (w' : World) (hx : Ext w9 w') => hr9.ext hx
                clear hcell5
                refine wpAnyH_take (i := 10) (oi := { dst := some 101, op := Op.binOp BinOp.neq 3 (Operand.tmp 96) (Operand.tmp 100) 3, type := 4, pos := "law.go:81", after := #[{ on := 5, ground := Ground.data }, { on := 9, ground := Ground.data }], guard := none }) (v := ?_) rfl (by kernel_rfl) (by kernel_rfl) (by kernel_rfl) (fun _ _ _ h => h) (Or.inl ⟨by rfl, ?_⟩) (by assumption) ?_
                rotate_left
                · (intro w' hSw; go_simp; try with_reducible rfl)
                try simp only [Act.put, List.setIfInBounds_toArray, List.set_cons_zero, List.set_cons_succ]
                refine wpAnyH_take (i := 11) (oi := { dst := some 102, op := Op.move (Operand.tmp 101), type := 4, pos := "law.go:81", after := #[{ on := 10, ground := Ground.data }, { on := 5, ground := Ground.chain }], guard := none }) (v := ?_) rfl (by kernel_rfl) (by kernel_rfl) (by kernel_rfl) (fun _ _ _ h => h) (Or.inl ⟨by rfl, ?_⟩) (by assumption) ?_
                rotate_left
                · (intro w' hSw; go_simp; try with_reducible rfl)
                try simp only [Act.put, List.setIfInBounds_toArray, List.set_cons_zero, List.set_cons_succ]
                refine wpAnyH_take (i := 12) (oi := { dst := some 103, op := Op.move (Operand.tmp 14), type := 66, pos := "law.go:81", after := #[{ on := 11, ground := Ground.guard }], guard := some (11, false) }) (v := ?_) rfl (by kernel_rfl) (by kernel_rfl) (by kernel_rfl) (fun _ _ _ h => h) (Or.inl ⟨by rfl, ?_⟩) (by assumption) ?_
                rotate_left
                · (intro w' hSw; go_simp; try with_reducible rfl)
                try simp only [Act.put, List.setIfInBounds_toArray, List.set_cons_zero, List.set_cons_succ]
                refine wpAnyH_ready (rs := [13]) (by kernel_rfl) (by simp) ?_
                refine AllReadyH.cons (o := { dst := some 104, op := Op.call { callee := Callee.value (Operand.func 49), args := #[Operand.tmp 103], argTypes := #[66] }, type := 4, pos := "law.go:81", after := #[{ on := 12, ground := Ground.data }, { on := 11, ground := Ground.chain }, { on := 11, ground := Ground.guard }], guard := some (11, false) }) rfl (fun K hK => ?_) AllReadyH.nil
                go_simp
                (go_at_call 49; (with_reducible refine (rfailed_any _ _ _ _ _ _ (hr10 _ (by assumption))).mono ?_); rintro e w' ⟨rfl, rfl⟩)
                refine hK.out _ _ ?_ (fun hHeld => ?_)
                · (repeat (first | exact Ext.refl _ | assumption | (with_reducible refine Ext.alloc ?_ _) | (with_reducible refine Ext.drew ?_) | (with_reducible refine Ext.drewN ?_ _) | (refine Ext.trans ?_ (by assumption))))
                clear hK K
                try simp only [Act.put, List.setIfInBounds_toArray, List.set_cons_zero, List.set_cons_succ]
                refine wpAnyH_take (i := 14) (oi := { dst := some 105, op := Op.pick (Operand.tmp 102) (Operand.const (Value.bool true)) (Operand.tmp 104), type := 4, pos := "law.go:81", after := #[{ on := 11, ground := Ground.data }, { on := 13, ground := Ground.data }], guard := none }) (v := ?_) rfl (by kernel_rfl) (by kernel_rfl) (by kernel_rfl) (fun _ _ _ h => h) (Or.inl ⟨by rfl, ?_⟩) (by assumption) ?_
                rotate_left
                · (intro w' hSw; go_simp; try with_reducible rfl)
                try simp only [Act.put, List.setIfInBounds_toArray, List.set_cons_zero, List.set_cons_succ]
                refine wpAnyH_done (by kernel_rfl) ?_ _
                go_wp2
                go_roundw
                case rel =>
                  refine ⟨k + 1, by omega, by go_num, ⟨A9, c9, hr9, fun ad' e => ?_, hp8, ?_⟩⟩
                  · obtain ⟨a0, e1, e2⟩ := hs9 ad' e
                    rw [e2]; exact hn8 a0 e1
                  · exact ((hx8.chg (fun i => i = p7)).trans hc10 (fun i _ h => h)).low (fun i hi h => by omega)
                case measure => simp [intOf]; omega
              · obtain rfl : k = ls.length := by omega
                rw [encS_end] at hr8
                go_wp2_with (first | (go_at_call 42; (with_reducible refine (alive20_any _).mono ?_); rintro e w' ⟨rfl, hx⟩) | (go_at_call 50; (with_reducible refine (left_any _ _ _ _ _ _ (hr8.ext hx)).mono ?_); rintro e w' ⟨rfl, rfl⟩))
                go_ret
                exact ⟨ret_eq rfl, hx8.trans hx⟩
          · go_wp2_with (first
                      | (go_at_call 50; (with_reducible refine (left_any _ _ _ _ _ _ hr2).mono ?_); rintro e w' ⟨rfl, rfl⟩)
                      | (go_at_call 43; (with_reducible refine (put_any wr.heap.size _ _ _ _ _ _ _ _ (hrg.ext ((Ext.refl _).alloc _)) (Wr.new _ _ _ rfl (Nat.le_refl _)) hA.out HL3.out).mono ?_); rintro e w3 ⟨rfl, v3, hw3, hc3, hf3⟩; simp only [List.nil_append, Bool.false_or] at hw3; rw [HGB.out] at hw3; have hx3 : Ext wr w3 := ((((Ext.refl wr).alloc _).chg (fun i => wr.heap.size ≤ i)).trans hc3 (fun i _ h => (Wr.new _ _ _ rfl (Nat.le_refl _)).base h)).low (fun i hi h => Nat.lt_irrefl _ (Nat.lt_of_lt_of_le hi h)))
                      | (go_at_call 44; (with_reducible refine (wbytes_ok _ _ _ _ _ hw3 HL4.out).mono ?_); rintro e w4 ⟨v4, rfl, ho4, hx4⟩; obtain ⟨A4, c4, rfl, hr4, _⟩ := ho4.read; have k1 := run_str (P := Try.prog) hr4 33 5 9 Try.underlying33 Try.underlying5 Try.underlying9 c4; have k2 := run_str (P := Try.prog) (H.out.ext ((hx2.trans hx3).trans hx4)) 33 5 9 Try.underlying33 Try.underlying5 Try.underlying9 c)
                      | (go_at_call 49; (with_reducible refine (rfailed_any _ _ _ _ _ _ (hr2.ext (hx3.trans hx4))).mono ?_); rintro e w' ⟨rfl, rfl⟩)
                      | (go_at_call 43; (with_reducible refine (put_any w4.heap.size _ _ _ _ _ _ _ _ (H2.out.ext (((hx2.trans hx3).trans hx4).alloc _)) (Wr.new _ _ _ rfl (Nat.le_refl _)) (HA5.out _ ((hx2.trans hx3).trans hx4).size) HL5.out).mono ?_); rintro e w5 ⟨rfl, v5, hw5, hc5, hf5⟩; simp only [List.nil_append, Bool.false_or] at hw5; rw [hbl] at hw5; have hx5 : Ext w4 w5 := ((((Ext.refl w4).alloc _).chg (fun i => w4.heap.size ≤ i)).trans hc5 (fun i _ h => (Wr.new _ _ _ rfl (Nat.le_refl _)).base h)).low (fun i hi h => Nat.lt_irrefl _ (Nat.lt_of_lt_of_le hi h)))
                      | (go_at_call 44; (with_reducible refine (wbytes_bad _ _ _ _ _ hw5 HL6.out).mono ?_); rintro e w6 ⟨v6, rfl, ho6, hx6⟩; obtain ⟨A6, c6, rfl, hr6, _⟩ := ho6.read)
                      | (go_at_call 42; (with_reducible refine (alive20_any _).mono ?_); rintro e w' ⟨rfl, hx⟩))
            go_ret
            exact ⟨ret_eq rfl, (((((hx2.trans hx3).trans hx4).trans hx5).trans hx6).trans hx)⟩
        · cases hbl : badF ls ls.length
          · go_wp2_with (first
                      | (go_at_call 50; (with_reducible refine (left_any _ _ _ _ _ _ hr2).mono ?_); rintro e w' ⟨rfl, rfl⟩)
                      | (go_at_call 43; (with_reducible refine (put_any wr.heap.size _ _ _ _ _ _ _ _ (hrg.ext ((Ext.refl _).alloc _)) (Wr.new _ _ _ rfl (Nat.le_refl _)) hA.out HL3.out).mono ?_); rintro e w3 ⟨rfl, v3, hw3, hc3, hf3⟩; simp only [List.nil_append, Bool.false_or] at hw3; rw [HGB.out] at hw3; have hx3 : Ext wr w3 := ((((Ext.refl wr).alloc _).chg (fun i => wr.heap.size ≤ i)).trans hc3 (fun i _ h => (Wr.new _ _ _ rfl (Nat.le_refl _)).base h)).low (fun i hi h => Nat.lt_irrefl _ (Nat.lt_of_lt_of_le hi h)))
                      | (go_at_call 44; (with_reducible refine (wbytes_ok _ _ _ _ _ hw3 HL4.out).mono ?_); rintro e w4 ⟨v4, rfl, ho4, hx4⟩; obtain ⟨A4, c4, rfl, hr4, _⟩ := ho4.read; have k1 := run_str (P := Try.prog) hr4 33 5 9 Try.underlying33 Try.underlying5 Try.underlying9 c4; have k2 := run_str (P := Try.prog) (H.out.ext ((hx2.trans hx3).trans hx4)) 33 5 9 Try.underlying33 Try.underlying5 Try.underlying9 c)
                      | (go_at_call 49; (with_reducible refine (rfailed_any _ _ _ _ _ _ (hr2.ext (hx3.trans hx4))).mono ?_); rintro e w' ⟨rfl, rfl⟩)
                      | (go_at_call 43; (with_reducible refine (put_any w4.heap.size _ _ _ _ _ _ _ _ (H2.out.ext (((hx2.trans hx3).trans hx4).alloc _)) (Wr.new _ _ _ rfl (Nat.le_refl _)) (HA5.out _ ((hx2.trans hx3).trans hx4).size) HL5.out).mono ?_); rintro e w5 ⟨rfl, v5, hw5, hc5, hf5⟩; simp only [List.nil_append, Bool.false_or] at hw5; rw [hbl] at hw5; have hx5 : Ext w4 w5 := ((((Ext.refl w4).alloc _).chg (fun i => w4.heap.size ≤ i)).trans hc5 (fun i _ h => (Wr.new _ _ _ rfl (Nat.le_refl _)).base h)).low (fun i hi h => Nat.lt_irrefl _ (Nat.lt_of_lt_of_le hi h)))
                      | (go_at_call 44; (with_reducible refine (wbytes_ok _ _ _ _ _ hw5 HL6.out).mono ?_); rintro e w6 ⟨v6, rfl, ho6, hx6⟩; obtain ⟨A6, c6, rfl, hr6, _⟩ := ho6.read)
                      | (go_at_call 46; (with_reducible refine (read_any _ _ _ _ hr6 HEB.out HL6.out).mono ?_); rintro e w7 ⟨p7, A7, c7, rfl, hp7, hr7, hn7, hx7⟩; have hx07 : Ext w w7 := ((((hx2.trans hx3).trans hx4).trans hx5).trans hx6).trans hx7; have hs07 : w.heap.size ≤ w6.heap.size := ((((hx2.trans hx3).trans hx4).trans hx5).trans hx6).size; rw [HES.out] at hr7))
            have HBL := Lib.hid hbl
            clear hr4 k1 k2 hw3 hw5 hr6
            go_loopw [15] (fun j wr => ∃ k : Nat, k ≤ ls.length ∧ j = .int .i64 k ∧ Again w p7 ls k wr) (fun j _ => ls.length - (intOf j).toNat)
            case atStart => exact ⟨0, by omega, rfl, ⟨A7, c7, hr7, fun ad e => by have := (hn7 ad e).1; omega, by omega, hx07⟩⟩
            case round =>
              obtain ⟨k, hk, rfl, ⟨A8, c8, hr8, hn8, hp8, hx8⟩⟩ := hrel
              by_cases hlt : k < ls.length
              · obtain ⟨ad, rfl, hcell⟩ := (H2.out.ext hx8).2 k hlt
                have hcb : ad.block < w.heap.size := H2.out.blk ad rfl (by omega)
                have hyk := badF_ok HBL.out k hlt
                have hst := encS_step ls k hlt
                rw [encB, if_pos hyk] at hst
                have hgo := get_one hyk (encS ls (k + 1))
                rw [← hst] at hgo
                have HGO := Lib.hid hgo; clear hgo hst
                have hcell5 : ∀ w', Chg (fun i => i = p7) wr w' → w'.cell? (ad.add k) = some (.int .i64 (nth ls k)) := fun w' hx => hx.cell (by rw [add_block]; intro he; omega) hcell
                clear hcell
                go_wp2
                refine wp_region_held_drew (S := fun w' => Chg (fun i => i = p7) wr w') (by kernel_rfl) (by exact ((Ext.refl _).drew).chg _) (fun hHeld => ?_)
                refine wpAnyH_take (i := 0) (oi := { dst := some 91, op := Op.move (Operand.tmp 14), type := 66, pos := "law.go:81", after := #[], guard := none }) (v := ?_) rfl (by kernel_rfl) (by kernel_rfl) (by kernel_rfl) (fun _ _ _ h => h) (Or.inl ⟨by rfl, ?_⟩) (by assumption) ?_
                rotate_left
                · (intro w' hSw; go_simp; try with_reducible rfl)
                try simp only [Act.put, List.setIfInBounds_toArray, List.set_cons_zero, List.set_cons_succ]
                refine wpAnyH_take (i := 1) (oi := { dst := some 92, op := Op.move (Operand.tmp 1), type := 24, pos := "law.go:81", after := #[], guard := none }) (v := ?_) rfl (by kernel_rfl) (by kernel_rfl) (by kernel_rfl) (fun _ _ _ h => h) (Or.inl ⟨by rfl, ?_⟩) (by assumption) ?_
                rotate_left
                · (intro w' hSw; go_simp; try with_reducible rfl)
                try simp only [Act.put, List.setIfInBounds_toArray, List.set_cons_zero, List.set_cons_succ]
                refine wpAnyH_take (i := 2) (oi := { dst := some 93, op := Op.move (Operand.tmp 15), type := 3, pos := "law.go:81", after := #[], guard := none }) (v := ?_) rfl (by kernel_rfl) (by kernel_rfl) (by kernel_rfl) (fun _ _ _ h => h) (Or.inl ⟨by rfl, ?_⟩) (by assumption) ?_
                rotate_left
                · (intro w' hSw; go_simp; try with_reducible rfl)
                try simp only [Act.put, List.setIfInBounds_toArray, List.set_cons_zero, List.set_cons_succ]
                refine wpAnyH_take (i := 3) (oi := { dst := some 94, op := Op.indexAddr 24 (Operand.tmp 92) (Operand.tmp 93), type := 0, pos := "law.go:81", after := #[{ on := 1, ground := Ground.data }, { on := 2, ground := Ground.data }], guard := none }) (v := ?_) rfl (by kernel_rfl) (by kernel_rfl) (by kernel_rfl) (fun _ _ _ h => h) (Or.inl ⟨by rfl, ?_⟩) (by assumption) ?_
                rotate_left
                · (intro w' hSw; go_simp; try with_reducible rfl)
                try simp only [Act.put, List.setIfInBounds_toArray, List.set_cons_zero, List.set_cons_succ]
                refine wpAnyH_take (i := 4) (oi := { dst := some 95, op := Op.load 3 (Operand.tmp 94), type := 3, pos := "law.go:81", after := #[{ on := 3, ground := Ground.data }], guard := none }) (v := ?_) rfl (by kernel_rfl) (by kernel_rfl) (by kernel_rfl) (fun _ _ _ h => h) (Or.inl ⟨by rfl, ?_⟩) (by assumption) ?_
                rotate_left
                · (intro w' hSw; go_simp; try with_reducible rfl)
                try simp only [Act.put, List.setIfInBounds_toArray, List.set_cons_zero, List.set_cons_succ]
                refine wpAnyH_take (i := 6) (oi := { dst := some 97, op := Op.move (Operand.tmp 1), type := 24, pos := "law.go:81", after := #[], guard := none }) (v := ?_) rfl (by kernel_rfl) (by kernel_rfl) (by kernel_rfl) (fun _ _ _ h => h) (Or.inl ⟨by rfl, ?_⟩) (by assumption) ?_
                rotate_left
                · (intro w' hSw; go_simp; try with_reducible rfl)
                try simp only [Act.put, List.setIfInBounds_toArray, List.set_cons_zero, List.set_cons_succ]
                refine wpAnyH_take (i := 7) (oi := { dst := some 98, op := Op.move (Operand.tmp 15), type := 3, pos := "law.go:81", after := #[], guard := none }) (v := ?_) rfl (by kernel_rfl) (by kernel_rfl) (by kernel_rfl) (fun _ _ _ h => h) (Or.inl ⟨by rfl, ?_⟩) (by assumption) ?_
                rotate_left
                · (intro w' hSw; go_simp; try with_reducible rfl)
                try simp only [Act.put, List.setIfInBounds_toArray, List.set_cons_zero, List.set_cons_succ]
                refine wpAnyH_take (i := 8) (oi := { dst := some 99, op := Op.indexAddr 24 (Operand.tmp 97) (Operand.tmp 98), type := 0, pos := "law.go:81", after := #[{ on := 6, ground := Ground.data }, { on := 7, ground := Ground.data }], guard := none }) (v := ?_) rfl (by kernel_rfl) (by kernel_rfl) (by kernel_rfl) (fun _ _ _ h => h) (Or.inl ⟨by rfl, ?_⟩) (by assumption) ?_
                rotate_left
                · (intro w' hSw; go_simp; try with_reducible rfl)
                try simp only [Act.put, List.setIfInBounds_toArray, List.set_cons_zero, List.set_cons_succ]
                refine wpAnyH_take (i := 9) (oi := { dst := some 100, op := Op.load 3 (Operand.tmp 99), type := 3, pos := "law.go:81", after := #[{ on := 8, ground := Ground.data }], guard := none }) (v := ?_) rfl (by kernel_rfl) (by kernel_rfl) (by kernel_rfl) (fun _ _ _ h => h) (Or.inl ⟨by rfl, ?_⟩) (by assumption) ?_
                rotate_left
                · (intro w' hSw; go_simp; try with_reducible rfl)
                try simp only [Act.put, List.setIfInBounds_toArray, List.set_cons_zero, List.set_cons_succ]
                refine wpAnyH_ready (rs := [5]) (by kernel_rfl) (by simp) ?_
                refine AllReadyH.cons (o := { dst := some 96, op := Op.call { callee := Callee.value (Operand.func 47), args := #[Operand.tmp 91, Operand.tmp 95], argTypes := #[66, 3] }, type := 3, pos := "law.go:81", after := #[{ on := 0, ground := Ground.data }, { on := 4, ground := Ground.data }], guard := none }) rfl (fun K hK => ?_) AllReadyH.nil
                go_simp
                (go_at_call 47; (with_reducible refine (get_any _ _ _ _ _ _ _ (hr8.ext ((Ext.refl _).drew))).mono ?_); rintro e w9 ⟨rfl, ⟨A9, c9, hr9, hc9, hs9⟩⟩; rw [HGO.out.1, HGO.out.2.2] at hr9; rw [HGO.out.2.1])
                refine hK.out _ _ ?_ (fun hHeld => ?_)
                · exact (((Ext.refl wr).drew).chg _).trans hc9 (fun _ _ h => h)
                clear hK K
                try simp only [Act.put, List.setIfInBounds_toArray, List.set_cons_zero, List.set_cons_succ]
                have hc10 : Chg (fun i => i = p7) wr w9 := (((Ext.refl wr).drew).chg _).trans hc9 (fun _ _ h => h)
                refine wpAnyH_mono' (S' := fun w' => Ext w9 w') (fun w' hw' => hc10.ext hw') ?_
                replace hHeld : Ext w9 w9 := Ext.refl _
                have hr10 := fun (w' : World) (hx : Ext w9 w') => hr9.ext hx
                clear hcell5
                refine wpAnyH_take (i := 10) (oi := { dst := some 101, op := Op.binOp BinOp.neq 3 (Operand.tmp 96) (Operand.tmp 100) 3, type := 4, pos := "law.go:81", after := #[{ on := 5, ground := Ground.data }, { on := 9, ground := Ground.data }], guard := none }) (v := ?_) rfl (by kernel_rfl) (by kernel_rfl) (by kernel_rfl) (fun _ _ _ h => h) (Or.inl ⟨by rfl, ?_⟩) (by assumption) ?_
                rotate_left
                · (intro w' hSw; go_simp; try with_reducible rfl)
                try simp only [Act.put, List.setIfInBounds_toArray, List.set_cons_zero, List.set_cons_succ]
                refine wpAnyH_take (i := 11) (oi := { dst := some 102, op := Op.move (Operand.tmp 101), type := 4, pos := "law.go:81", after := #[{ on := 10, ground := Ground.data }, { on := 5, ground := Ground.chain }], guard := none }) (v := ?_) rfl (by kernel_rfl) (by kernel_rfl) (by kernel_rfl) (fun _ _ _ h => h) (Or.inl ⟨by rfl, ?_⟩) (by assumption) ?_
                rotate_left
                · (intro w' hSw; go_simp; try with_reducible rfl)
                try simp only [Act.put, List.setIfInBounds_toArray, List.set_cons_zero, List.set_cons_succ]
                refine wpAnyH_take (i := 12) (oi := { dst := some 103, op := Op.move (Operand.tmp 14), type := 66, pos := "law.go:81", after := #[{ on := 11, ground := Ground.guard }], guard := some (11, false) }) (v := ?_) rfl (by kernel_rfl) (by kernel_rfl) (by kernel_rfl) (fun _ _ _ h => h) (Or.inl ⟨by rfl, ?_⟩) (by assumption) ?_
                rotate_left
                · (intro w' hSw; go_simp; try with_reducible rfl)
                try simp only [Act.put, List.setIfInBounds_toArray, List.set_cons_zero, List.set_cons_succ]
                refine wpAnyH_ready (rs := [13]) (by kernel_rfl) (by simp) ?_
                refine AllReadyH.cons (o := { dst := some 104, op := Op.call { callee := Callee.value (Operand.func 49), args := #[Operand.tmp 103], argTypes := #[66] }, type := 4, pos := "law.go:81", after := #[{ on := 12, ground := Ground.data }, { on := 11, ground := Ground.chain }, { on := 11, ground := Ground.guard }], guard := some (11, false) }) rfl (fun K hK => ?_) AllReadyH.nil
                go_simp
                (go_at_call 49; (with_reducible refine (rfailed_any _ _ _ _ _ _ (hr10 _ (by assumption))).mono ?_); rintro e w' ⟨rfl, rfl⟩)
                refine hK.out _ _ ?_ (fun hHeld => ?_)
                · (repeat (first | exact Ext.refl _ | assumption | (with_reducible refine Ext.alloc ?_ _) | (with_reducible refine Ext.drew ?_) | (with_reducible refine Ext.drewN ?_ _) | (refine Ext.trans ?_ (by assumption))))
                clear hK K
                try simp only [Act.put, List.setIfInBounds_toArray, List.set_cons_zero, List.set_cons_succ]
                refine wpAnyH_take (i := 14) (oi := { dst := some 105, op := Op.pick (Operand.tmp 102) (Operand.const (Value.bool true)) (Operand.tmp 104), type := 4, pos := "law.go:81", after := #[{ on := 11, ground := Ground.data }, { on := 13, ground := Ground.data }], guard := none }) (v := ?_) rfl (by kernel_rfl) (by kernel_rfl) (by kernel_rfl) (fun _ _ _ h => h) (Or.inl ⟨by rfl, ?_⟩) (by assumption) ?_
                rotate_left
                · (intro w' hSw; go_simp; try with_reducible rfl)
                try simp only [Act.put, List.setIfInBounds_toArray, List.set_cons_zero, List.set_cons_succ]
                refine wpAnyH_done (by kernel_rfl) ?_ _
                go_wp2
                go_roundw
                case rel =>
                  refine ⟨k + 1, by omega, by go_num, ⟨A9, c9, hr9, fun ad' e => ?_, hp8, ?_⟩⟩
                  · obtain ⟨a0, e1, e2⟩ := hs9 ad' e
                    rw [e2]; exact hn8 a0 e1
                  · exact ((hx8.chg (fun i => i = p7)).trans hc10 (fun i _ h => h)).low (fun i hi h => by omega)
                case measure => simp [intOf]; omega
              · obtain rfl : k = ls.length := by omega
                rw [encS_end] at hr8
                go_wp2_with (first | (go_at_call 42; (with_reducible refine (alive20_any _).mono ?_); rintro e w' ⟨rfl, hx⟩) | (go_at_call 50; (with_reducible refine (left_any _ _ _ _ _ _ (hr8.ext hx)).mono ?_); rintro e w' ⟨rfl, rfl⟩))
                go_ret
                exact ⟨ret_eq rfl, hx8.trans hx⟩
          · go_wp2_with (first
                      | (go_at_call 50; (with_reducible refine (left_any _ _ _ _ _ _ hr2).mono ?_); rintro e w' ⟨rfl, rfl⟩)
                      | (go_at_call 43; (with_reducible refine (put_any wr.heap.size _ _ _ _ _ _ _ _ (hrg.ext ((Ext.refl _).alloc _)) (Wr.new _ _ _ rfl (Nat.le_refl _)) hA.out HL3.out).mono ?_); rintro e w3 ⟨rfl, v3, hw3, hc3, hf3⟩; simp only [List.nil_append, Bool.false_or] at hw3; rw [HGB.out] at hw3; have hx3 : Ext wr w3 := ((((Ext.refl wr).alloc _).chg (fun i => wr.heap.size ≤ i)).trans hc3 (fun i _ h => (Wr.new _ _ _ rfl (Nat.le_refl _)).base h)).low (fun i hi h => Nat.lt_irrefl _ (Nat.lt_of_lt_of_le hi h)))
                      | (go_at_call 44; (with_reducible refine (wbytes_ok _ _ _ _ _ hw3 HL4.out).mono ?_); rintro e w4 ⟨v4, rfl, ho4, hx4⟩; obtain ⟨A4, c4, rfl, hr4, _⟩ := ho4.read; have k1 := run_str (P := Try.prog) hr4 33 5 9 Try.underlying33 Try.underlying5 Try.underlying9 c4; have k2 := run_str (P := Try.prog) (H.out.ext ((hx2.trans hx3).trans hx4)) 33 5 9 Try.underlying33 Try.underlying5 Try.underlying9 c)
                      | (go_at_call 49; (with_reducible refine (rfailed_any _ _ _ _ _ _ (hr2.ext (hx3.trans hx4))).mono ?_); rintro e w' ⟨rfl, rfl⟩)
                      | (go_at_call 43; (with_reducible refine (put_any w4.heap.size _ _ _ _ _ _ _ _ (H2.out.ext (((hx2.trans hx3).trans hx4).alloc _)) (Wr.new _ _ _ rfl (Nat.le_refl _)) (HA5.out _ ((hx2.trans hx3).trans hx4).size) HL5.out).mono ?_); rintro e w5 ⟨rfl, v5, hw5, hc5, hf5⟩; simp only [List.nil_append, Bool.false_or] at hw5; rw [hbl] at hw5; have hx5 : Ext w4 w5 := ((((Ext.refl w4).alloc _).chg (fun i => w4.heap.size ≤ i)).trans hc5 (fun i _ h => (Wr.new _ _ _ rfl (Nat.le_refl _)).base h)).low (fun i hi h => Nat.lt_irrefl _ (Nat.lt_of_lt_of_le hi h)))
                      | (go_at_call 44; (with_reducible refine (wbytes_bad _ _ _ _ _ hw5 HL6.out).mono ?_); rintro e w6 ⟨v6, rfl, ho6, hx6⟩; obtain ⟨A6, c6, rfl, hr6, _⟩ := ho6.read)
                      | (go_at_call 42; (with_reducible refine (alive20_any _).mono ?_); rintro e w' ⟨rfl, hx⟩))
            go_ret
            exact ⟨ret_eq rfl, (((((hx2.trans hx3).trans hx4).trans hx5).trans hx6).trans hx)⟩
      · clear hgo
        rcases hfs with rfl | ⟨rfl, hinj, hinj'⟩
        · cases hbl : badF ls ls.length
          · go_wp2_with (first
                      | (go_at_call 50; (with_reducible refine (left_any _ _ _ _ _ _ hr2).mono ?_); rintro e w' ⟨rfl, rfl⟩)
                      | (go_at_call 43; (with_reducible refine (put_any wr.heap.size _ _ _ _ _ _ _ _ (hrg.ext ((Ext.refl _).alloc _)) (Wr.new _ _ _ rfl (Nat.le_refl _)) hA.out HL3.out).mono ?_); rintro e w3 ⟨rfl, v3, hw3, hc3, hf3⟩; simp only [List.nil_append, Bool.false_or] at hw3; rw [HGB.out] at hw3; have hx3 : Ext wr w3 := ((((Ext.refl wr).alloc _).chg (fun i => wr.heap.size ≤ i)).trans hc3 (fun i _ h => (Wr.new _ _ _ rfl (Nat.le_refl _)).base h)).low (fun i hi h => Nat.lt_irrefl _ (Nat.lt_of_lt_of_le hi h)))
                      | (go_at_call 44; (with_reducible refine (wbytes_ok _ _ _ _ _ hw3 HL4.out).mono ?_); rintro e w4 ⟨v4, rfl, ho4, hx4⟩; obtain ⟨A4, c4, rfl, hr4, _⟩ := ho4.read; have k1 := run_str (P := Try.prog) hr4 33 5 9 Try.underlying33 Try.underlying5 Try.underlying9 c4; have k2 := run_str (P := Try.prog) (H.out.ext ((hx2.trans hx3).trans hx4)) 33 5 9 Try.underlying33 Try.underlying5 Try.underlying9 c)
                      | (go_at_call 49; (with_reducible refine (rfailed_any _ _ _ _ _ _ (hr2.ext (hx3.trans hx4))).mono ?_); rintro e w' ⟨rfl, rfl⟩)
                      | (go_at_call 43; (with_reducible refine (put_any w4.heap.size _ _ _ _ _ _ _ _ (H2.out.ext (((hx2.trans hx3).trans hx4).alloc _)) (Wr.new _ _ _ rfl (Nat.le_refl _)) (HA5.out _ ((hx2.trans hx3).trans hx4).size) HL5.out).mono ?_); rintro e w5 ⟨rfl, v5, hw5, hc5, hf5⟩; simp only [List.nil_append, Bool.false_or] at hw5; rw [hbl] at hw5; have hx5 : Ext w4 w5 := ((((Ext.refl w4).alloc _).chg (fun i => w4.heap.size ≤ i)).trans hc5 (fun i _ h => (Wr.new _ _ _ rfl (Nat.le_refl _)).base h)).low (fun i hi h => Nat.lt_irrefl _ (Nat.lt_of_lt_of_le hi h)))
                      | (go_at_call 44; (with_reducible refine (wbytes_ok _ _ _ _ _ hw5 HL6.out).mono ?_); rintro e w6 ⟨v6, rfl, ho6, hx6⟩; obtain ⟨A6, c6, rfl, hr6, _⟩ := ho6.read)
                      | (go_at_call 46; (with_reducible refine (read_any _ _ _ _ hr6 HEB.out HL6.out).mono ?_); rintro e w7 ⟨p7, A7, c7, rfl, hp7, hr7, hn7, hx7⟩; have hx07 : Ext w w7 := ((((hx2.trans hx3).trans hx4).trans hx5).trans hx6).trans hx7; have hs07 : w.heap.size ≤ w6.heap.size := ((((hx2.trans hx3).trans hx4).trans hx5).trans hx6).size; rw [HES.out] at hr7))
            have HBL := Lib.hid hbl
            clear hr4 k1 k2 hw3 hw5 hr6
            go_loopw [15] (fun j wr => ∃ k : Nat, k ≤ ls.length ∧ j = .int .i64 k ∧ Again w p7 ls k wr) (fun j _ => ls.length - (intOf j).toNat)
            case atStart => exact ⟨0, by omega, rfl, ⟨A7, c7, hr7, fun ad e => by have := (hn7 ad e).1; omega, by omega, hx07⟩⟩
            case round =>
              obtain ⟨k, hk, rfl, ⟨A8, c8, hr8, hn8, hp8, hx8⟩⟩ := hrel
              by_cases hlt : k < ls.length
              · obtain ⟨ad, rfl, hcell⟩ := (H2.out.ext hx8).2 k hlt
                have hcb : ad.block < w.heap.size := H2.out.blk ad rfl (by omega)
                have hyk := badF_ok HBL.out k hlt
                have hst := encS_step ls k hlt
                rw [encB, if_pos hyk] at hst
                have hgo := get_one hyk (encS ls (k + 1))
                rw [← hst] at hgo
                have HGO := Lib.hid hgo; clear hgo hst
                have hcell5 : ∀ w', Chg (fun i => i = p7) wr w' → w'.cell? (ad.add k) = some (.int .i64 (nth ls k)) := fun w' hx => hx.cell (by rw [add_block]; intro he; omega) hcell
                clear hcell
                go_wp2
                refine wp_region_held_drew (S := fun w' => Chg (fun i => i = p7) wr w') (by kernel_rfl) (by exact ((Ext.refl _).drew).chg _) (fun hHeld => ?_)
                refine wpAnyH_take (i := 0) (oi := { dst := some 91, op := Op.move (Operand.tmp 14), type := 66, pos := "law.go:81", after := #[], guard := none }) (v := ?_) rfl (by kernel_rfl) (by kernel_rfl) (by kernel_rfl) (fun _ _ _ h => h) (Or.inl ⟨by rfl, ?_⟩) (by assumption) ?_
                rotate_left
                · (intro w' hSw; go_simp; try with_reducible rfl)
                try simp only [Act.put, List.setIfInBounds_toArray, List.set_cons_zero, List.set_cons_succ]
                refine wpAnyH_take (i := 1) (oi := { dst := some 92, op := Op.move (Operand.tmp 1), type := 24, pos := "law.go:81", after := #[], guard := none }) (v := ?_) rfl (by kernel_rfl) (by kernel_rfl) (by kernel_rfl) (fun _ _ _ h => h) (Or.inl ⟨by rfl, ?_⟩) (by assumption) ?_
                rotate_left
                · (intro w' hSw; go_simp; try with_reducible rfl)
                try simp only [Act.put, List.setIfInBounds_toArray, List.set_cons_zero, List.set_cons_succ]
                refine wpAnyH_take (i := 2) (oi := { dst := some 93, op := Op.move (Operand.tmp 15), type := 3, pos := "law.go:81", after := #[], guard := none }) (v := ?_) rfl (by kernel_rfl) (by kernel_rfl) (by kernel_rfl) (fun _ _ _ h => h) (Or.inl ⟨by rfl, ?_⟩) (by assumption) ?_
                rotate_left
                · (intro w' hSw; go_simp; try with_reducible rfl)
                try simp only [Act.put, List.setIfInBounds_toArray, List.set_cons_zero, List.set_cons_succ]
                refine wpAnyH_take (i := 3) (oi := { dst := some 94, op := Op.indexAddr 24 (Operand.tmp 92) (Operand.tmp 93), type := 0, pos := "law.go:81", after := #[{ on := 1, ground := Ground.data }, { on := 2, ground := Ground.data }], guard := none }) (v := ?_) rfl (by kernel_rfl) (by kernel_rfl) (by kernel_rfl) (fun _ _ _ h => h) (Or.inl ⟨by rfl, ?_⟩) (by assumption) ?_
                rotate_left
                · (intro w' hSw; go_simp; try with_reducible rfl)
                try simp only [Act.put, List.setIfInBounds_toArray, List.set_cons_zero, List.set_cons_succ]
                refine wpAnyH_take (i := 4) (oi := { dst := some 95, op := Op.load 3 (Operand.tmp 94), type := 3, pos := "law.go:81", after := #[{ on := 3, ground := Ground.data }], guard := none }) (v := ?_) rfl (by kernel_rfl) (by kernel_rfl) (by kernel_rfl) (fun _ _ _ h => h) (Or.inl ⟨by rfl, ?_⟩) (by assumption) ?_
                rotate_left
                · (intro w' hSw; go_simp; try with_reducible rfl)
                try simp only [Act.put, List.setIfInBounds_toArray, List.set_cons_zero, List.set_cons_succ]
                refine wpAnyH_take (i := 6) (oi := { dst := some 97, op := Op.move (Operand.tmp 1), type := 24, pos := "law.go:81", after := #[], guard := none }) (v := ?_) rfl (by kernel_rfl) (by kernel_rfl) (by kernel_rfl) (fun _ _ _ h => h) (Or.inl ⟨by rfl, ?_⟩) (by assumption) ?_
                rotate_left
                · (intro w' hSw; go_simp; try with_reducible rfl)
                try simp only [Act.put, List.setIfInBounds_toArray, List.set_cons_zero, List.set_cons_succ]
                refine wpAnyH_take (i := 7) (oi := { dst := some 98, op := Op.move (Operand.tmp 15), type := 3, pos := "law.go:81", after := #[], guard := none }) (v := ?_) rfl (by kernel_rfl) (by kernel_rfl) (by kernel_rfl) (fun _ _ _ h => h) (Or.inl ⟨by rfl, ?_⟩) (by assumption) ?_
                rotate_left
                · (intro w' hSw; go_simp; try with_reducible rfl)
                try simp only [Act.put, List.setIfInBounds_toArray, List.set_cons_zero, List.set_cons_succ]
                refine wpAnyH_take (i := 8) (oi := { dst := some 99, op := Op.indexAddr 24 (Operand.tmp 97) (Operand.tmp 98), type := 0, pos := "law.go:81", after := #[{ on := 6, ground := Ground.data }, { on := 7, ground := Ground.data }], guard := none }) (v := ?_) rfl (by kernel_rfl) (by kernel_rfl) (by kernel_rfl) (fun _ _ _ h => h) (Or.inl ⟨by rfl, ?_⟩) (by assumption) ?_
                rotate_left
                · (intro w' hSw; go_simp; try with_reducible rfl)
                try simp only [Act.put, List.setIfInBounds_toArray, List.set_cons_zero, List.set_cons_succ]
                refine wpAnyH_take (i := 9) (oi := { dst := some 100, op := Op.load 3 (Operand.tmp 99), type := 3, pos := "law.go:81", after := #[{ on := 8, ground := Ground.data }], guard := none }) (v := ?_) rfl (by kernel_rfl) (by kernel_rfl) (by kernel_rfl) (fun _ _ _ h => h) (Or.inl ⟨by rfl, ?_⟩) (by assumption) ?_
                rotate_left
                · (intro w' hSw; go_simp; try with_reducible rfl)
                try simp only [Act.put, List.setIfInBounds_toArray, List.set_cons_zero, List.set_cons_succ]
                refine wpAnyH_ready (rs := [5]) (by kernel_rfl) (by simp) ?_
                refine AllReadyH.cons (o := { dst := some 96, op := Op.call { callee := Callee.value (Operand.func 47), args := #[Operand.tmp 91, Operand.tmp 95], argTypes := #[66, 3] }, type := 3, pos := "law.go:81", after := #[{ on := 0, ground := Ground.data }, { on := 4, ground := Ground.data }], guard := none }) rfl (fun K hK => ?_) AllReadyH.nil
                go_simp
                (go_at_call 47; (with_reducible refine (get_any _ _ _ _ _ _ _ (hr8.ext ((Ext.refl _).drew))).mono ?_); rintro e w9 ⟨rfl, ⟨A9, c9, hr9, hc9, hs9⟩⟩; rw [HGO.out.1, HGO.out.2.2] at hr9; rw [HGO.out.2.1])
                refine hK.out _ _ ?_ (fun hHeld => ?_)
                · exact (((Ext.refl wr).drew).chg _).trans hc9 (fun _ _ h => h)
                clear hK K
                try simp only [Act.put, List.setIfInBounds_toArray, List.set_cons_zero, List.set_cons_succ]
                have hc10 : Chg (fun i => i = p7) wr w9 := (((Ext.refl wr).drew).chg _).trans hc9 (fun _ _ h => h)
                refine wpAnyH_mono' (S' := fun w' => Ext w9 w') (fun w' hw' => hc10.ext hw') ?_
                replace hHeld : Ext w9 w9 := Ext.refl _
                have hr10 := fun (w' : World) (hx : Ext w9 w') => hr9.ext hx
                clear hcell5
                refine wpAnyH_take (i := 10) (oi := { dst := some 101, op := Op.binOp BinOp.neq 3 (Operand.tmp 96) (Operand.tmp 100) 3, type := 4, pos := "law.go:81", after := #[{ on := 5, ground := Ground.data }, { on := 9, ground := Ground.data }], guard := none }) (v := ?_) rfl (by kernel_rfl) (by kernel_rfl) (by kernel_rfl) (fun _ _ _ h => h) (Or.inl ⟨by rfl, ?_⟩) (by assumption) ?_
                rotate_left
                · (intro w' hSw; go_simp; try with_reducible rfl)
                try simp only [Act.put, List.setIfInBounds_toArray, List.set_cons_zero, List.set_cons_succ]
                refine wpAnyH_take (i := 11) (oi := { dst := some 102, op := Op.move (Operand.tmp 101), type := 4, pos := "law.go:81", after := #[{ on := 10, ground := Ground.data }, { on := 5, ground := Ground.chain }], guard := none }) (v := ?_) rfl (by kernel_rfl) (by kernel_rfl) (by kernel_rfl) (fun _ _ _ h => h) (Or.inl ⟨by rfl, ?_⟩) (by assumption) ?_
                rotate_left
                · (intro w' hSw; go_simp; try with_reducible rfl)
                try simp only [Act.put, List.setIfInBounds_toArray, List.set_cons_zero, List.set_cons_succ]
                refine wpAnyH_take (i := 12) (oi := { dst := some 103, op := Op.move (Operand.tmp 14), type := 66, pos := "law.go:81", after := #[{ on := 11, ground := Ground.guard }], guard := some (11, false) }) (v := ?_) rfl (by kernel_rfl) (by kernel_rfl) (by kernel_rfl) (fun _ _ _ h => h) (Or.inl ⟨by rfl, ?_⟩) (by assumption) ?_
                rotate_left
                · (intro w' hSw; go_simp; try with_reducible rfl)
                try simp only [Act.put, List.setIfInBounds_toArray, List.set_cons_zero, List.set_cons_succ]
                refine wpAnyH_ready (rs := [13]) (by kernel_rfl) (by simp) ?_
                refine AllReadyH.cons (o := { dst := some 104, op := Op.call { callee := Callee.value (Operand.func 49), args := #[Operand.tmp 103], argTypes := #[66] }, type := 4, pos := "law.go:81", after := #[{ on := 12, ground := Ground.data }, { on := 11, ground := Ground.chain }, { on := 11, ground := Ground.guard }], guard := some (11, false) }) rfl (fun K hK => ?_) AllReadyH.nil
                go_simp
                (go_at_call 49; (with_reducible refine (rfailed_any _ _ _ _ _ _ (hr10 _ (by assumption))).mono ?_); rintro e w' ⟨rfl, rfl⟩)
                refine hK.out _ _ ?_ (fun hHeld => ?_)
                · (repeat (first | exact Ext.refl _ | assumption | (with_reducible refine Ext.alloc ?_ _) | (with_reducible refine Ext.drew ?_) | (with_reducible refine Ext.drewN ?_ _) | (refine Ext.trans ?_ (by assumption))))
                clear hK K
                try simp only [Act.put, List.setIfInBounds_toArray, List.set_cons_zero, List.set_cons_succ]
                refine wpAnyH_take (i := 14) (oi := { dst := some 105, op := Op.pick (Operand.tmp 102) (Operand.const (Value.bool true)) (Operand.tmp 104), type := 4, pos := "law.go:81", after := #[{ on := 11, ground := Ground.data }, { on := 13, ground := Ground.data }], guard := none }) (v := ?_) rfl (by kernel_rfl) (by kernel_rfl) (by kernel_rfl) (fun _ _ _ h => h) (Or.inl ⟨by rfl, ?_⟩) (by assumption) ?_
                rotate_left
                · (intro w' hSw; go_simp; try with_reducible rfl)
                try simp only [Act.put, List.setIfInBounds_toArray, List.set_cons_zero, List.set_cons_succ]
                refine wpAnyH_done (by kernel_rfl) ?_ _
                go_wp2
                go_roundw
                case rel =>
                  refine ⟨k + 1, by omega, by go_num, ⟨A9, c9, hr9, fun ad' e => ?_, hp8, ?_⟩⟩
                  · obtain ⟨a0, e1, e2⟩ := hs9 ad' e
                    rw [e2]; exact hn8 a0 e1
                  · exact ((hx8.chg (fun i => i = p7)).trans hc10 (fun i _ h => h)).low (fun i hi h => by omega)
                case measure => simp [intOf]; omega
              · obtain rfl : k = ls.length := by omega
                rw [encS_end] at hr8
                go_wp2_with (first | (go_at_call 42; (with_reducible refine (alive20_any _).mono ?_); rintro e w' ⟨rfl, hx⟩) | (go_at_call 50; (with_reducible refine (left_any _ _ _ _ _ _ (hr8.ext hx)).mono ?_); rintro e w' ⟨rfl, rfl⟩))
                go_ret
                exact ⟨ret_eq rfl, hx8.trans hx⟩
          · go_wp2_with (first
                      | (go_at_call 50; (with_reducible refine (left_any _ _ _ _ _ _ hr2).mono ?_); rintro e w' ⟨rfl, rfl⟩)
                      | (go_at_call 43; (with_reducible refine (put_any wr.heap.size _ _ _ _ _ _ _ _ (hrg.ext ((Ext.refl _).alloc _)) (Wr.new _ _ _ rfl (Nat.le_refl _)) hA.out HL3.out).mono ?_); rintro e w3 ⟨rfl, v3, hw3, hc3, hf3⟩; simp only [List.nil_append, Bool.false_or] at hw3; rw [HGB.out] at hw3; have hx3 : Ext wr w3 := ((((Ext.refl wr).alloc _).chg (fun i => wr.heap.size ≤ i)).trans hc3 (fun i _ h => (Wr.new _ _ _ rfl (Nat.le_refl _)).base h)).low (fun i hi h => Nat.lt_irrefl _ (Nat.lt_of_lt_of_le hi h)))
                      | (go_at_call 44; (with_reducible refine (wbytes_ok _ _ _ _ _ hw3 HL4.out).mono ?_); rintro e w4 ⟨v4, rfl, ho4, hx4⟩; obtain ⟨A4, c4, rfl, hr4, _⟩ := ho4.read; have k1 := run_str (P := Try.prog) hr4 33 5 9 Try.underlying33 Try.underlying5 Try.underlying9 c4; have k2 := run_str (P := Try.prog) (H.out.ext ((hx2.trans hx3).trans hx4)) 33 5 9 Try.underlying33 Try.underlying5 Try.underlying9 c)
                      | (go_at_call 49; (with_reducible refine (rfailed_any _ _ _ _ _ _ (hr2.ext (hx3.trans hx4))).mono ?_); rintro e w' ⟨rfl, rfl⟩)
                      | (go_at_call 43; (with_reducible refine (put_any w4.heap.size _ _ _ _ _ _ _ _ (H2.out.ext (((hx2.trans hx3).trans hx4).alloc _)) (Wr.new _ _ _ rfl (Nat.le_refl _)) (HA5.out _ ((hx2.trans hx3).trans hx4).size) HL5.out).mono ?_); rintro e w5 ⟨rfl, v5, hw5, hc5, hf5⟩; simp only [List.nil_append, Bool.false_or] at hw5; rw [hbl] at hw5; have hx5 : Ext w4 w5 := ((((Ext.refl w4).alloc _).chg (fun i => w4.heap.size ≤ i)).trans hc5 (fun i _ h => (Wr.new _ _ _ rfl (Nat.le_refl _)).base h)).low (fun i hi h => Nat.lt_irrefl _ (Nat.lt_of_lt_of_le hi h)))
                      | (go_at_call 44; (with_reducible refine (wbytes_bad _ _ _ _ _ hw5 HL6.out).mono ?_); rintro e w6 ⟨v6, rfl, ho6, hx6⟩; obtain ⟨A6, c6, rfl, hr6, _⟩ := ho6.read)
                      | (go_at_call 42; (with_reducible refine (alive20_any _).mono ?_); rintro e w' ⟨rfl, hx⟩))
            go_ret
            exact ⟨ret_eq rfl, (((((hx2.trans hx3).trans hx4).trans hx5).trans hx6).trans hx)⟩
        · cases hbl : badF ls ls.length
          · go_wp2_with (first
                      | (go_at_call 50; (with_reducible refine (left_any _ _ _ _ _ _ hr2).mono ?_); rintro e w' ⟨rfl, rfl⟩)
                      | (go_at_call 43; (with_reducible refine (put_any wr.heap.size _ _ _ _ _ _ _ _ (hrg.ext ((Ext.refl _).alloc _)) (Wr.new _ _ _ rfl (Nat.le_refl _)) hA.out HL3.out).mono ?_); rintro e w3 ⟨rfl, v3, hw3, hc3, hf3⟩; simp only [List.nil_append, Bool.false_or] at hw3; rw [HGB.out] at hw3; have hx3 : Ext wr w3 := ((((Ext.refl wr).alloc _).chg (fun i => wr.heap.size ≤ i)).trans hc3 (fun i _ h => (Wr.new _ _ _ rfl (Nat.le_refl _)).base h)).low (fun i hi h => Nat.lt_irrefl _ (Nat.lt_of_lt_of_le hi h)))
                      | (go_at_call 44; (with_reducible refine (wbytes_ok _ _ _ _ _ hw3 HL4.out).mono ?_); rintro e w4 ⟨v4, rfl, ho4, hx4⟩; obtain ⟨A4, c4, rfl, hr4, _⟩ := ho4.read; have k1 := run_str (P := Try.prog) hr4 33 5 9 Try.underlying33 Try.underlying5 Try.underlying9 c4; have k2 := run_str (P := Try.prog) (H.out.ext ((hx2.trans hx3).trans hx4)) 33 5 9 Try.underlying33 Try.underlying5 Try.underlying9 c)
                      | (go_at_call 49; (with_reducible refine (rfailed_any _ _ _ _ _ _ (hr2.ext (hx3.trans hx4))).mono ?_); rintro e w' ⟨rfl, rfl⟩)
                      | (go_at_call 43; (with_reducible refine (put_any w4.heap.size _ _ _ _ _ _ _ _ (H2.out.ext (((hx2.trans hx3).trans hx4).alloc _)) (Wr.new _ _ _ rfl (Nat.le_refl _)) (HA5.out _ ((hx2.trans hx3).trans hx4).size) HL5.out).mono ?_); rintro e w5 ⟨rfl, v5, hw5, hc5, hf5⟩; simp only [List.nil_append, Bool.false_or] at hw5; rw [hbl] at hw5; have hx5 : Ext w4 w5 := ((((Ext.refl w4).alloc _).chg (fun i => w4.heap.size ≤ i)).trans hc5 (fun i _ h => (Wr.new _ _ _ rfl (Nat.le_refl _)).base h)).low (fun i hi h => Nat.lt_irrefl _ (Nat.lt_of_lt_of_le hi h)))
                      | (go_at_call 44; (with_reducible refine (wbytes_ok _ _ _ _ _ hw5 HL6.out).mono ?_); rintro e w6 ⟨v6, rfl, ho6, hx6⟩; obtain ⟨A6, c6, rfl, hr6, _⟩ := ho6.read)
                      | (go_at_call 46; (with_reducible refine (read_any _ _ _ _ hr6 HEB.out HL6.out).mono ?_); rintro e w7 ⟨p7, A7, c7, rfl, hp7, hr7, hn7, hx7⟩; have hx07 : Ext w w7 := ((((hx2.trans hx3).trans hx4).trans hx5).trans hx6).trans hx7; have hs07 : w.heap.size ≤ w6.heap.size := ((((hx2.trans hx3).trans hx4).trans hx5).trans hx6).size; rw [HES.out] at hr7))
            have HBL := Lib.hid hbl
            clear hr4 k1 k2 hw3 hw5 hr6
            go_loopw [15] (fun j wr => ∃ k : Nat, k ≤ ls.length ∧ j = .int .i64 k ∧ Again w p7 ls k wr) (fun j _ => ls.length - (intOf j).toNat)
            case atStart => exact ⟨0, by omega, rfl, ⟨A7, c7, hr7, fun ad e => by have := (hn7 ad e).1; omega, by omega, hx07⟩⟩
            case round =>
              obtain ⟨k, hk, rfl, ⟨A8, c8, hr8, hn8, hp8, hx8⟩⟩ := hrel
              by_cases hlt : k < ls.length
              · obtain ⟨ad, rfl, hcell⟩ := (H2.out.ext hx8).2 k hlt
                have hcb : ad.block < w.heap.size := H2.out.blk ad rfl (by omega)
                have hyk := badF_ok HBL.out k hlt
                have hst := encS_step ls k hlt
                rw [encB, if_pos hyk] at hst
                have hgo := get_one hyk (encS ls (k + 1))
                rw [← hst] at hgo
                have HGO := Lib.hid hgo; clear hgo hst
                have hcell5 : ∀ w', Chg (fun i => i = p7) wr w' → w'.cell? (ad.add k) = some (.int .i64 (nth ls k)) := fun w' hx => hx.cell (by rw [add_block]; intro he; omega) hcell
                clear hcell
                go_wp2
                refine wp_region_held_drew (S := fun w' => Chg (fun i => i = p7) wr w') (by kernel_rfl) (by exact ((Ext.refl _).drew).chg _) (fun hHeld => ?_)
                refine wpAnyH_take (i := 0) (oi := { dst := some 91, op := Op.move (Operand.tmp 14), type := 66, pos := "law.go:81", after := #[], guard := none }) (v := ?_) rfl (by kernel_rfl) (by kernel_rfl) (by kernel_rfl) (fun _ _ _ h => h) (Or.inl ⟨by rfl, ?_⟩) (by assumption) ?_
                rotate_left
                · (intro w' hSw; go_simp; try with_reducible rfl)
                try simp only [Act.put, List.setIfInBounds_toArray, List.set_cons_zero, List.set_cons_succ]
                refine wpAnyH_take (i := 1) (oi := { dst := some 92, op := Op.move (Operand.tmp 1), type := 24, pos := "law.go:81", after := #[], guard := none }) (v := ?_) rfl (by kernel_rfl) (by kernel_rfl) (by kernel_rfl) (fun _ _ _ h => h) (Or.inl ⟨by rfl, ?_⟩) (by assumption) ?_
                rotate_left
                · (intro w' hSw; go_simp; try with_reducible rfl)
                try simp only [Act.put, List.setIfInBounds_toArray, List.set_cons_zero, List.set_cons_succ]
                refine wpAnyH_take (i := 2) (oi := { dst := some 93, op := Op.move (Operand.tmp 15), type := 3, pos := "law.go:81", after := #[], guard := none }) (v := ?_) rfl (by kernel_rfl) (by kernel_rfl) (by kernel_rfl) (fun _ _ _ h => h) (Or.inl ⟨by rfl, ?_⟩) (by assumption) ?_
                rotate_left
                · (intro w' hSw; go_simp; try with_reducible rfl)
                try simp only [Act.put, List.setIfInBounds_toArray, List.set_cons_zero, List.set_cons_succ]
                refine wpAnyH_take (i := 3) (oi := { dst := some 94, op := Op.indexAddr 24 (Operand.tmp 92) (Operand.tmp 93), type := 0, pos := "law.go:81", after := #[{ on := 1, ground := Ground.data }, { on := 2, ground := Ground.data }], guard := none }) (v := ?_) rfl (by kernel_rfl) (by kernel_rfl) (by kernel_rfl) (fun _ _ _ h => h) (Or.inl ⟨by rfl, ?_⟩) (by assumption) ?_
                rotate_left
                · (intro w' hSw; go_simp; try with_reducible rfl)
                try simp only [Act.put, List.setIfInBounds_toArray, List.set_cons_zero, List.set_cons_succ]
                refine wpAnyH_take (i := 4) (oi := { dst := some 95, op := Op.load 3 (Operand.tmp 94), type := 3, pos := "law.go:81", after := #[{ on := 3, ground := Ground.data }], guard := none }) (v := ?_) rfl (by kernel_rfl) (by kernel_rfl) (by kernel_rfl) (fun _ _ _ h => h) (Or.inl ⟨by rfl, ?_⟩) (by assumption) ?_
                rotate_left
                · (intro w' hSw; go_simp; try with_reducible rfl)
                try simp only [Act.put, List.setIfInBounds_toArray, List.set_cons_zero, List.set_cons_succ]
                refine wpAnyH_take (i := 6) (oi := { dst := some 97, op := Op.move (Operand.tmp 1), type := 24, pos := "law.go:81", after := #[], guard := none }) (v := ?_) rfl (by kernel_rfl) (by kernel_rfl) (by kernel_rfl) (fun _ _ _ h => h) (Or.inl ⟨by rfl, ?_⟩) (by assumption) ?_
                rotate_left
                · (intro w' hSw; go_simp; try with_reducible rfl)
                try simp only [Act.put, List.setIfInBounds_toArray, List.set_cons_zero, List.set_cons_succ]
                refine wpAnyH_take (i := 7) (oi := { dst := some 98, op := Op.move (Operand.tmp 15), type := 3, pos := "law.go:81", after := #[], guard := none }) (v := ?_) rfl (by kernel_rfl) (by kernel_rfl) (by kernel_rfl) (fun _ _ _ h => h) (Or.inl ⟨by rfl, ?_⟩) (by assumption) ?_
                rotate_left
                · (intro w' hSw; go_simp; try with_reducible rfl)
                try simp only [Act.put, List.setIfInBounds_toArray, List.set_cons_zero, List.set_cons_succ]
                refine wpAnyH_take (i := 8) (oi := { dst := some 99, op := Op.indexAddr 24 (Operand.tmp 97) (Operand.tmp 98), type := 0, pos := "law.go:81", after := #[{ on := 6, ground := Ground.data }, { on := 7, ground := Ground.data }], guard := none }) (v := ?_) rfl (by kernel_rfl) (by kernel_rfl) (by kernel_rfl) (fun _ _ _ h => h) (Or.inl ⟨by rfl, ?_⟩) (by assumption) ?_
                rotate_left
                · (intro w' hSw; go_simp; try with_reducible rfl)
                try simp only [Act.put, List.setIfInBounds_toArray, List.set_cons_zero, List.set_cons_succ]
                refine wpAnyH_take (i := 9) (oi := { dst := some 100, op := Op.load 3 (Operand.tmp 99), type := 3, pos := "law.go:81", after := #[{ on := 8, ground := Ground.data }], guard := none }) (v := ?_) rfl (by kernel_rfl) (by kernel_rfl) (by kernel_rfl) (fun _ _ _ h => h) (Or.inl ⟨by rfl, ?_⟩) (by assumption) ?_
                rotate_left
                · (intro w' hSw; go_simp; try with_reducible rfl)
                try simp only [Act.put, List.setIfInBounds_toArray, List.set_cons_zero, List.set_cons_succ]
                refine wpAnyH_ready (rs := [5]) (by kernel_rfl) (by simp) ?_
                refine AllReadyH.cons (o := { dst := some 96, op := Op.call { callee := Callee.value (Operand.func 47), args := #[Operand.tmp 91, Operand.tmp 95], argTypes := #[66, 3] }, type := 3, pos := "law.go:81", after := #[{ on := 0, ground := Ground.data }, { on := 4, ground := Ground.data }], guard := none }) rfl (fun K hK => ?_) AllReadyH.nil
                go_simp
                (go_at_call 47; (with_reducible refine (get_any _ _ _ _ _ _ _ (hr8.ext ((Ext.refl _).drew))).mono ?_); rintro e w9 ⟨rfl, ⟨A9, c9, hr9, hc9, hs9⟩⟩; rw [HGO.out.1, HGO.out.2.2] at hr9; rw [HGO.out.2.1])
                refine hK.out _ _ ?_ (fun hHeld => ?_)
                · exact (((Ext.refl wr).drew).chg _).trans hc9 (fun _ _ h => h)
                clear hK K
                try simp only [Act.put, List.setIfInBounds_toArray, List.set_cons_zero, List.set_cons_succ]
                have hc10 : Chg (fun i => i = p7) wr w9 := (((Ext.refl wr).drew).chg _).trans hc9 (fun _ _ h => h)
                refine wpAnyH_mono' (S' := fun w' => Ext w9 w') (fun w' hw' => hc10.ext hw') ?_
                replace hHeld : Ext w9 w9 := Ext.refl _
                have hr10 := fun (w' : World) (hx : Ext w9 w') => hr9.ext hx
                clear hcell5
                refine wpAnyH_take (i := 10) (oi := { dst := some 101, op := Op.binOp BinOp.neq 3 (Operand.tmp 96) (Operand.tmp 100) 3, type := 4, pos := "law.go:81", after := #[{ on := 5, ground := Ground.data }, { on := 9, ground := Ground.data }], guard := none }) (v := ?_) rfl (by kernel_rfl) (by kernel_rfl) (by kernel_rfl) (fun _ _ _ h => h) (Or.inl ⟨by rfl, ?_⟩) (by assumption) ?_
                rotate_left
                · (intro w' hSw; go_simp; try with_reducible rfl)
                try simp only [Act.put, List.setIfInBounds_toArray, List.set_cons_zero, List.set_cons_succ]
                refine wpAnyH_take (i := 11) (oi := { dst := some 102, op := Op.move (Operand.tmp 101), type := 4, pos := "law.go:81", after := #[{ on := 10, ground := Ground.data }, { on := 5, ground := Ground.chain }], guard := none }) (v := ?_) rfl (by kernel_rfl) (by kernel_rfl) (by kernel_rfl) (fun _ _ _ h => h) (Or.inl ⟨by rfl, ?_⟩) (by assumption) ?_
                rotate_left
                · (intro w' hSw; go_simp; try with_reducible rfl)
                try simp only [Act.put, List.setIfInBounds_toArray, List.set_cons_zero, List.set_cons_succ]
                refine wpAnyH_take (i := 12) (oi := { dst := some 103, op := Op.move (Operand.tmp 14), type := 66, pos := "law.go:81", after := #[{ on := 11, ground := Ground.guard }], guard := some (11, false) }) (v := ?_) rfl (by kernel_rfl) (by kernel_rfl) (by kernel_rfl) (fun _ _ _ h => h) (Or.inl ⟨by rfl, ?_⟩) (by assumption) ?_
                rotate_left
                · (intro w' hSw; go_simp; try with_reducible rfl)
                try simp only [Act.put, List.setIfInBounds_toArray, List.set_cons_zero, List.set_cons_succ]
                refine wpAnyH_ready (rs := [13]) (by kernel_rfl) (by simp) ?_
                refine AllReadyH.cons (o := { dst := some 104, op := Op.call { callee := Callee.value (Operand.func 49), args := #[Operand.tmp 103], argTypes := #[66] }, type := 4, pos := "law.go:81", after := #[{ on := 12, ground := Ground.data }, { on := 11, ground := Ground.chain }, { on := 11, ground := Ground.guard }], guard := some (11, false) }) rfl (fun K hK => ?_) AllReadyH.nil
                go_simp
                (go_at_call 49; (with_reducible refine (rfailed_any _ _ _ _ _ _ (hr10 _ (by assumption))).mono ?_); rintro e w' ⟨rfl, rfl⟩)
                refine hK.out _ _ ?_ (fun hHeld => ?_)
                · (repeat (first | exact Ext.refl _ | assumption | (with_reducible refine Ext.alloc ?_ _) | (with_reducible refine Ext.drew ?_) | (with_reducible refine Ext.drewN ?_ _) | (refine Ext.trans ?_ (by assumption))))
                clear hK K
                try simp only [Act.put, List.setIfInBounds_toArray, List.set_cons_zero, List.set_cons_succ]
                refine wpAnyH_take (i := 14) (oi := { dst := some 105, op := Op.pick (Operand.tmp 102) (Operand.const (Value.bool true)) (Operand.tmp 104), type := 4, pos := "law.go:81", after := #[{ on := 11, ground := Ground.data }, { on := 13, ground := Ground.data }], guard := none }) (v := ?_) rfl (by kernel_rfl) (by kernel_rfl) (by kernel_rfl) (fun _ _ _ h => h) (Or.inl ⟨by rfl, ?_⟩) (by assumption) ?_
                rotate_left
                · (intro w' hSw; go_simp; try with_reducible rfl)
                try simp only [Act.put, List.setIfInBounds_toArray, List.set_cons_zero, List.set_cons_succ]
                refine wpAnyH_done (by kernel_rfl) ?_ _
                go_wp2
                go_roundw
                case rel =>
                  refine ⟨k + 1, by omega, by go_num, ⟨A9, c9, hr9, fun ad' e => ?_, hp8, ?_⟩⟩
                  · obtain ⟨a0, e1, e2⟩ := hs9 ad' e
                    rw [e2]; exact hn8 a0 e1
                  · exact ((hx8.chg (fun i => i = p7)).trans hc10 (fun i _ h => h)).low (fun i hi h => by omega)
                case measure => simp [intOf]; omega
              · obtain rfl : k = ls.length := by omega
                rw [encS_end] at hr8
                go_wp2_with (first | (go_at_call 42; (with_reducible refine (alive20_any _).mono ?_); rintro e w' ⟨rfl, hx⟩) | (go_at_call 50; (with_reducible refine (left_any _ _ _ _ _ _ (hr8.ext hx)).mono ?_); rintro e w' ⟨rfl, rfl⟩))
                go_ret
                exact ⟨ret_eq rfl, hx8.trans hx⟩
          · go_wp2_with (first
                      | (go_at_call 50; (with_reducible refine (left_any _ _ _ _ _ _ hr2).mono ?_); rintro e w' ⟨rfl, rfl⟩)
                      | (go_at_call 43; (with_reducible refine (put_any wr.heap.size _ _ _ _ _ _ _ _ (hrg.ext ((Ext.refl _).alloc _)) (Wr.new _ _ _ rfl (Nat.le_refl _)) hA.out HL3.out).mono ?_); rintro e w3 ⟨rfl, v3, hw3, hc3, hf3⟩; simp only [List.nil_append, Bool.false_or] at hw3; rw [HGB.out] at hw3; have hx3 : Ext wr w3 := ((((Ext.refl wr).alloc _).chg (fun i => wr.heap.size ≤ i)).trans hc3 (fun i _ h => (Wr.new _ _ _ rfl (Nat.le_refl _)).base h)).low (fun i hi h => Nat.lt_irrefl _ (Nat.lt_of_lt_of_le hi h)))
                      | (go_at_call 44; (with_reducible refine (wbytes_ok _ _ _ _ _ hw3 HL4.out).mono ?_); rintro e w4 ⟨v4, rfl, ho4, hx4⟩; obtain ⟨A4, c4, rfl, hr4, _⟩ := ho4.read; have k1 := run_str (P := Try.prog) hr4 33 5 9 Try.underlying33 Try.underlying5 Try.underlying9 c4; have k2 := run_str (P := Try.prog) (H.out.ext ((hx2.trans hx3).trans hx4)) 33 5 9 Try.underlying33 Try.underlying5 Try.underlying9 c)
                      | (go_at_call 49; (with_reducible refine (rfailed_any _ _ _ _ _ _ (hr2.ext (hx3.trans hx4))).mono ?_); rintro e w' ⟨rfl, rfl⟩)
                      | (go_at_call 43; (with_reducible refine (put_any w4.heap.size _ _ _ _ _ _ _ _ (H2.out.ext (((hx2.trans hx3).trans hx4).alloc _)) (Wr.new _ _ _ rfl (Nat.le_refl _)) (HA5.out _ ((hx2.trans hx3).trans hx4).size) HL5.out).mono ?_); rintro e w5 ⟨rfl, v5, hw5, hc5, hf5⟩; simp only [List.nil_append, Bool.false_or] at hw5; rw [hbl] at hw5; have hx5 : Ext w4 w5 := ((((Ext.refl w4).alloc _).chg (fun i => w4.heap.size ≤ i)).trans hc5 (fun i _ h => (Wr.new _ _ _ rfl (Nat.le_refl _)).base h)).low (fun i hi h => Nat.lt_irrefl _ (Nat.lt_of_lt_of_le hi h)))
                      | (go_at_call 44; (with_reducible refine (wbytes_bad _ _ _ _ _ hw5 HL6.out).mono ?_); rintro e w6 ⟨v6, rfl, ho6, hx6⟩; obtain ⟨A6, c6, rfl, hr6, _⟩ := ho6.read)
                      | (go_at_call 42; (with_reducible refine (alive20_any _).mono ?_); rintro e w' ⟨rfl, hx⟩))
            go_ret
            exact ⟨ret_eq rfl, (((((hx2.trans hx3).trans hx4).trans hx5).trans hx6).trans hx)⟩
end Go.Proofs.Ytkepmkdnmmofmaa
