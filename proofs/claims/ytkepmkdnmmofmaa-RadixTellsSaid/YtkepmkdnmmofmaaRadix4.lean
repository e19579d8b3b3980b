/-
  The reference of layer 17: its order, walked. Conditions: slices that are read lie in memory, and hold 64 bits each.
-/
import Derived.Test.YtkepmkdnmmofmaaRadix3
set_option linter.unusedVariables false
set_option linter.unusedSimpArgs false
namespace Go.Proofs.Ytkepmkdnmmofmaa
open Go.RowKit

def natI (o : List Nat) : List Int := o.map Int.ofNat
theorem natI_len (o : List Nat) : (natI o).length = o.length := by simp [natI]
theorem natI_nth (o : List Nat) (k : Nat) (h : k < o.length) : nth (natI o) k = (nthN o k : Int) := nth_nat o k h
theorem natI_app (o p : List Nat) : natI (o ++ p) = natI o ++ natI p := by simp [natI]
theorem natI_take (o : List Nat) (t : Nat) : natI (o.take t) = (natI o).take t := by simp [natI, List.map_take]
theorem natI_drop (o : List Nat) (t : Nat) : natI (o.drop t) = (natI o).drop t := by simp [natI, List.map_drop]
/-- Behind a place all keys are greater; ahead of it none is. -/
def Over (key : Nat → Nat) (o : List Nat) (i t : Nat) : Prop := ∀ q, t ≤ q → ∀ x, o[q]? = some x → key i < key x
def Under (key : Nat → Nat) (o : List Nat) (i t : Nat) : Prop := ∀ q, q < t → ∀ x, o[q]? = some x → key x ≤ key i
theorem over_end (key : Nat → Nat) (o : List Nat) (i : Nat) : Over key o i o.length := fun q hq x hx => by
  rw [List.getElem?_eq_none hq] at hx; cases hx
theorem over_down {key : Nat → Nat} {o : List Nat} {i t : Nat} (h : Over key o i (t + 1)) (ht : t < o.length) (hk : key i < key (nthN o t)) : Over key o i t := by
  intro q hq x hx
  rcases Nat.lt_or_ge t q with h1 | h1
  · exact h q h1 x hx
  · obtain rfl : q = t := by omega
    rwa [nthN_some hx] at hk
theorem under_of {key : Nat → Nat} {o : List Nat} {i t n : Nat} (hs : Srt key n o) (ht : t < o.length) (hk : key (nthN o t) ≤ key i) : Under key o i (t + 1) := by
  intro q hq x hx
  rcases Nat.lt_or_ge q t with h1 | h1
  · have := List.pairwise_iff_getElem.1 hs.rise q t (by omega) ht h1
    obtain ⟨hq2, rfl⟩ := List.getElem?_eq_some_iff.1 hx
    rw [nthN_get _ _ ht] at hk
    unfold Aft at this; omega
  · obtain rfl : q = t := by omega
    rwa [nthN_some hx] at hk
structure Put1 (key : Nat → Nat) (i : Nat) (o : List Nat) (t : Nat) (p : List Nat) : Prop where mk :: (out : p = o.take t ++ [i] ++ o.drop t)
structure Rets (E : Nat) (key : Nat → Nat) (n : Nat) (w : World) (e : Ending) (w' : World) : Prop where mk :: (out : ∃ v o, e = .returned v ∧ Srt key n o ∧ Own E .i64 w.heap.size w' v (natI o) ∧ Ext w w')
structure Ins (key : Nat → Nat) (k : Nat) (w wr : World) (v : Value) : Prop where mk :: (out : ∃ o, Srt key k o ∧ Own 3 .i64 w.heap.size wr v (natI o) ∧ Ext w wr)
theorem srt_nil (key : Nat → Nat) : Srt key 0 [] := ⟨by simp, by simp⟩
theorem rd_take {q : IntKind} {w : World} {A : Option Addr} {xs : List Int} (h : RdK q w A xs) (t : Nat) : RdK q w A (xs.take t) := by
  refine ⟨by rw [List.length_take]; have := h.1; omega, fun i hi => ?_⟩
  rw [List.length_take] at hi
  obtain ⟨ad, e, hc⟩ := h.2 i (by omega)
  refine ⟨ad, e, ?_⟩
  rw [hc, nth_get _ _ (by omega), nth_get _ _ (by rw [List.length_take]; omega), List.getElem_take]
theorem rd_drop {q : IntKind} {w : World} {ad : Addr} {xs : List Int} (h : RdK q w (some ad) xs) (t : Nat) : RdK q w (some (ad.add t)) (xs.drop t) := by
  refine ⟨by rw [List.length_drop]; have := h.1; omega, fun i hi => ⟨_, rfl, ?_⟩⟩
  rw [List.length_drop] at hi
  obtain ⟨ad', e, hc⟩ := h.2 (t + i) (by omega)
  injection e with e; subst e
  have : (ad.add t).add i = ad.add (t + i) := by
    unfold Addr.add
    by_cases h1 : t = 0 <;> by_cases h2 : i = 0 <;> simp [h1, h2, Nat.add_assoc]
  rw [this, hc, nth_get _ _ (by omega), nth_get _ _ (by rw [List.length_drop]; omega), List.getElem_drop]
theorem rd_empty {q : IntKind} {w : World} (A : Option Addr) : RdK q w A [] := ⟨by simp, fun i hi => by simp at hi⟩

set_option maxRecDepth 20000 in
set_option maxHeartbeats 4000000 in
theorem rorder_any (A : Option Addr) (c : Nat) (xs : List Int) (w : World) (h : RdK .u64 w A xs) (hu : U64s xs) (hl : xs.length ≤ 1000) :
    Calls Try.prog 16 #[.slice A xs.length c] w (Rets 3 (keyN xs) xs.length w) := by
  obtain ⟨hlen, hr⟩ := h
  have hr2 : ∀ i, i < xs.length → ∃ ad, A = some ad ∧ ∀ w', Ext w w' → w'.cell? (ad.add i) = some (.int .u64 (keyN xs i : Int)) := fun i hi => by
    obtain ⟨ad, e, hc⟩ := hr i hi
    rw [keyN_eq hu i hi] at hc
    exact ⟨ad, e, fun w' hx => hx.cell hc⟩
  have HR := Lib.hid hr2; clear hr hr2
  clear hu hlen
  generalize keyN xs = key at *
  generalize xs.length = n at *
  go_enter Try.func16, Try.ntmps16
  go_wp2
  go_loopw [3, 4, 5, 6] (fun v i _ _ wr => ∃ k : Nat, k ≤ n ∧ i = .int .i64 k ∧ Ins key k w wr v) (fun _ i _ _ _ => n - (intOf i).toNat)
  case atStart => exact ⟨0, by omega, rfl, ⟨[], srt_nil _, Own.nil _ _ _ _, Ext.refl _⟩⟩
  case round =>
    obtain ⟨k, hk, rfl, o, hs, ho, hx⟩ := hrel
    obtain ⟨wo, rfl⟩ : ∃ wo : World, wo = wr := ⟨_, rfl⟩
    by_cases hlt : k < n
    · have hol := hs.len
      obtain ⟨A2, c2, rfl, hr2, _⟩ := ho.read
      rw [natI_len, hol] at ho ⊢
      have HS := Lib.hid hs; clear hs
      have HO := Lib.hid ho; clear ho
      have HR2 := Lib.hid hr2; clear hr2
      have hov := over_end key o k
      rw [hol] at hov
      have HOV0 := Lib.hid hov; clear hov
      have HL := Lib.hid hol; clear hol
      go_wp2
      go_loopw [5] (fun a wr => ∃ t : Nat, t ≤ k ∧ a = .int .i64 t ∧ Over key o k t ∧ Drw wo wr) (fun a _ => (intOf a).toNat)
      case atStart => exact ⟨k, by omega, rfl, HOV0.out, Drw.refl _⟩
      case round =>
        obtain ⟨t, ht, rfl, hov2, hdw⟩ := hrel
        have HOV := Lib.hid hov2; clear hov2
        have HX := Lib.hid (hx.trans hdw.ext)
        have hxd := hdw.ext
        have hkc := HR.out k hlt
        obtain ⟨ad, rfl, hkc⟩ := hkc
        have hc0 := hkc _ HX.out
        have HKC := Lib.hid hkc; clear hkc
        have htail : Under key o k t → ∀ (Q : Exit → Act → World → Prop), True := fun _ _ => trivial
        clear htail
        by_cases hgo : 0 < t ∧ key k < key (nthN o (t - 1))
        · obtain ⟨u, rfl⟩ : ∃ u, t = u + 1 := ⟨t - 1, by omega⟩
          simp only [Nat.add_sub_cancel] at hgo
          have hov3 := Lib.hid (over_down HOV.out (by rw [HL.out]; omega) hgo.2)
          have hin := HS.out.lt (nthN_mem o u (by rw [HL.out]; omega))
          obtain ⟨ad2, rfl, hc2⟩ := (HR2.out.ext hxd).2 u (by rw [natI_len, HL.out]; omega)
          rw [natI_nth _ _ (by rw [HL.out]; omega)] at hc2
          obtain ⟨ad', he, hci⟩ := HR.out (nthN o u) (by omega)
          injection he with he; subst he
          have hc1 := hci _ HX.out
          clear hci
          obtain ⟨_, hgk⟩ := hgo
          have hgb : decide ((key k : Int) < (key (nthN o u) : Int)) = true := by simp; omega
          have hgt : decide ((0 : Int) < ((u : Int) + 1)) = true := decide_eq_true (by omega)
          have hw1 : IntKind.i64.wrap ((u : Int) + 1 - 1) = (u : Int) := by rw [Int.add_sub_cancel]; exact IntWalk.i64_in _ (by omega)
          have hu0 : (0 : Int) ≤ (u : Int) := by omega
          have hu1 : (u : Int) < (k : Int) := by omega
          have hi0 : (0 : Int) ≤ (nthN o u : Int) := by omega
          have hi1 : (nthN o u : Int) < (n : Int) := by omega
          have hk0 : (0 : Int) ≤ (k : Int) := by omega
          have hk1 : (k : Int) < (n : Int) := by omega
          generalize nthN o u = x at *
          rw [cast_succ]
          go_wp2
          (refine wp_region_quiet_lit (by kernel_rfl) (by kernel_rfl) ?_; (iterate 17 (any_goals (first | go_big_quiet_step (fail) | quiet_step (fail)))); all_goals (refine wpQuiet_nil ?_; intro _ hw'; obtain ⟨nq, hw''⟩ := hw'; subst hw''))
          go_wp2
          go_roundw
          case rel => exact ⟨u, by omega, rfl, hov3.out, hdw.step _⟩
          case measure => simp [intOf]
        · have hun : Hid (Under key o k t) := by
            show Under key o k t
            rcases Nat.eq_zero_or_pos t with h0 | h0
            · subst h0; exact fun q hq => by omega
            · have := under_of HS.out (key := key) (i := k) (t := t - 1) (by rw [HL.out]; omega) (by omega)
              rwa [Nat.sub_add_cancel h0] at this
          have hput := Lib.hid (srt_put key k o HS.out t (by rw [HL.out]; omega) hun.out HOV.out)
          have hmain : Hid (0 < t → decide ((key k : Int) < (key (nthN o (t - 1)) : Int)) = false) := by
            show _ → _
            intro h0; simp; omega
          have hln : Hid (k + 1 ≤ 1000) := by show _ ≤ _; omega
          rcases Nat.eq_zero_or_pos t with h0 | h0
          · subst h0
            rw [show ((0 : Nat) : Int) = 0 from rfl]
            have hgt : decide ((0 : Int) < 0) = false := by simp
            go_wp2
            (refine wp_region_quiet_lit (by kernel_rfl) (by kernel_rfl) ?_; (iterate 17 (any_goals (first | go_big_quiet_step (fail) | quiet_step (fail)))); all_goals (refine wpQuiet_nil ?_; intro _ hw'; obtain ⟨nq, hw''⟩ := hw'; subst hw''))
            clear hgt
            have hkc2 : k ≤ c2 := by have := HO.out.cap; rw [natI_len, HL.out] at this; exact this
            have hx0 : Ext wo (wr.drewN nq) := hxd.drewN nq
            have HR3 := Lib.hid ((HR2.out.ext hx0).ext ((Ext.refl _).alloc (.cells #[] 3)))
            have hl1 : Hid (((natI o).take 0).length = 0) := by show _ = _; rfl
            have hl2 : Hid (((natI o).drop 0).length = k) := by show _ = _; rw [List.drop_zero, natI_len, HL.out]
            have hb1 : Hid ((0 + ((natI o).take 0).length) * 8 ≤ 140737488355328) := by show _ ≤ _; rw [hl1.out]; omega
            have hb2 : Hid ((((natI o).take 0).length + 1) * 8 ≤ 140737488355328) := by show _ ≤ _; rw [hl1.out]; omega
            have hb3 : Hid ((((natI o).take 0 ++ [(k : Int)]).length + ((natI o).drop 0).length) * 8 ≤ 140737488355328) := by show _ ≤ _; rw [List.length_append, hl1.out, hl2.out]; have := hln.out; simp; omega
            have hsz := Lib.hid (Ext.size (hx.trans hx0))
            go_wp2_with (first
              | (at_builtin; refine app_rowN (w0 := wr.drewN nq) 8 Try.underlying24 rinfo_int (by decide) v2 _ ((natI o).drop 0) _ _ k hl2.out rfl rfl ho2 hx2 (HR2.out.ext (hx0.trans hx2)) hb3.out ?_; intro v3 w3 ho3 hx3)
              | (at_builtin; refine app_one (w0 := wr.drewN nq) 8 Try.underlying24 rinfo_int (by decide) v1 _ rfl rfl rfl ho1 hx1 hb2.out ?_; intro v2 w2 ho2 hx2)
              | (at_builtin; refine app_rowN (w0 := wr.drewN nq) 8 Try.underlying24 rinfo_int (by decide) _ [] ((natI o).take 0) _ _ 0 hl1.out rfl rfl (Own.made0 _ _ _ _ (Nat.le_refl _) _ rfl) ((Ext.refl _).alloc _) (rd_take HR3.out _) hb1.out ?_; intro v1 w1 ho1 hx1; rw [List.nil_append] at ho1))
            go_roundw
            case rel => exact ⟨k + 1, by omega, by go_num, ⟨_, hput.out, by rw [natI_app, natI_app, natI_take, natI_drop]; exact ho3.lower hsz.out, (hx.trans hx0).trans hx3⟩⟩
            case measure => simp [intOf]; omega
          · obtain ⟨u, rfl⟩ : ∃ u, t = u + 1 := ⟨t - 1, by omega⟩
            have hgb := hmain.out h0
            simp only [Nat.add_sub_cancel] at hgb
            have hgb2 : key (nthN o u) ≤ key k := by have := of_decide_eq_false hgb; omega
            have hgb3 : decide (key k < key (nthN o u)) = false := decide_eq_false (by omega)
            obtain ⟨ad2, rfl, hc2⟩ := (HR2.out.ext hxd).2 u (by rw [natI_len, HL.out]; omega)
            rw [natI_nth _ _ (by rw [HL.out]; omega)] at hc2
            have hin := HS.out.lt (nthN_mem o u (by rw [HL.out]; omega))
            obtain ⟨ad', he, hci⟩ := HR.out (nthN o u) (by omega)
            injection he with he; subst he
            have hc1 := hci _ HX.out
            clear hci hgo
            have hgt : decide ((0 : Int) < ((u : Int) + 1)) = true := decide_eq_true (by omega)
            have hw1 : IntKind.i64.wrap ((u : Int) + 1 - 1) = (u : Int) := by rw [Int.add_sub_cancel]; exact IntWalk.i64_in _ (by omega)
            have hu0 : (0 : Int) ≤ (u : Int) := by omega
            have hu1 : (u : Int) < (k : Int) := by omega
            have hi0 : (0 : Int) ≤ (nthN o u : Int) := by omega
            have hi1 : (nthN o u : Int) < (n : Int) := by omega
            have hk0 : (0 : Int) ≤ (k : Int) := by omega
            have hk1 : (k : Int) < (n : Int) := by omega
            generalize nthN o u = x at *
            rw [cast_succ]
            go_wp2
            (refine wp_region_quiet_lit (by kernel_rfl) (by kernel_rfl) ?_; (iterate 17 (any_goals (first | go_big_quiet_step (fail) | quiet_step (fail)))); all_goals (refine wpQuiet_nil ?_; intro _ hw'; obtain ⟨nq, hw''⟩ := hw'; subst hw''))
            clear hgt hw1 hgb hgb2 hgb3 hc1 hc2
            have hkc2 : k ≤ c2 := by have := HO.out.cap; rw [natI_len, HL.out] at this; exact this
            have hx0 : Ext wo (wr.drewN nq) := hxd.drewN nq
            have HR3 := Lib.hid ((HR2.out.ext hx0).ext ((Ext.refl _).alloc (.cells #[] 3)))
            have hl1 : Hid (((natI o).take (u + 1)).length = u + 1) := by show _ = _; rw [List.length_take, natI_len, HL.out]; omega
            have hl2 : Hid (((natI o).drop (u + 1)).length = k - (u + 1)) := by show _ = _; rw [List.length_drop, natI_len, HL.out]
            have hb1 : Hid ((0 + ((natI o).take (u + 1)).length) * 8 ≤ 140737488355328) := by show _ ≤ _; rw [hl1.out]; have := hln.out; omega
            have hb2 : Hid ((((natI o).take (u + 1)).length + 1) * 8 ≤ 140737488355328) := by show _ ≤ _; rw [hl1.out]; have := hln.out; omega
            have hb3 : Hid ((((natI o).take (u + 1) ++ [(k : Int)]).length + ((natI o).drop (u + 1)).length) * 8 ≤ 140737488355328) := by show _ ≤ _; rw [List.length_append, hl1.out, hl2.out]; have := hln.out; simp; omega
            have hsz := Lib.hid (Ext.size (hx.trans hx0))
            by_cases hcc : c2 = u + 1
            · subst hcc
              have h00 : k = u + 1 := by omega
              have hd0 : (natI o).drop (u + 1) = [] := List.drop_eq_nil_of_le (by rw [natI_len, HL.out]; omega)
              have HD0 := Lib.hid hd0; clear hd0 h00
              go_wp2_with (first
                | (at_builtin; refine app_rowN (w0 := wr.drewN nq) 8 Try.underlying24 rinfo_int (by decide) v2 _ ((natI o).drop (u + 1)) _ _ 0 (by rw [HD0.out]; rfl) rfl rfl ho2 hx2 (by rw [HD0.out]; exact rd_empty _) hb3.out ?_; intro v3 w3 ho3 hx3)
                | (at_builtin; refine app_one (w0 := wr.drewN nq) 8 Try.underlying24 rinfo_int (by decide) v1 _ rfl rfl rfl ho1 hx1 hb2.out ?_; intro v2 w2 ho2 hx2)
                | (at_builtin; refine app_rowN (w0 := wr.drewN nq) 8 Try.underlying24 rinfo_int (by decide) _ [] ((natI o).take (u + 1)) _ _ (u + 1) hl1.out rfl rfl (Own.made0 _ _ _ _ (Nat.le_refl _) _ rfl) ((Ext.refl _).alloc _) (rd_take HR3.out _) hb1.out ?_; intro v1 w1 ho1 hx1; rw [List.nil_append] at ho1))
              go_roundw
              case rel => exact ⟨k + 1, by omega, by go_num, ⟨_, hput.out, by rw [natI_app, natI_app, natI_take, natI_drop]; exact ho3.lower hsz.out, (hx.trans hx0).trans hx3⟩⟩
              case measure => simp [intOf]; omega
            · go_wp2_with (first
                | (at_builtin; refine app_rowN (w0 := wr.drewN nq) 8 Try.underlying24 rinfo_int (by decide) v2 _ ((natI o).drop (u + 1)) _ _ (k - (u + 1)) hl2.out rfl rfl ho2 hx2 (rd_drop (HR2.out.ext (hx0.trans hx2)) _) hb3.out ?_; intro v3 w3 ho3 hx3)
                | (at_builtin; refine app_one (w0 := wr.drewN nq) 8 Try.underlying24 rinfo_int (by decide) v1 _ rfl rfl rfl ho1 hx1 hb2.out ?_; intro v2 w2 ho2 hx2)
                | (at_builtin; refine app_rowN (w0 := wr.drewN nq) 8 Try.underlying24 rinfo_int (by decide) _ [] ((natI o).take (u + 1)) _ _ (u + 1) hl1.out rfl rfl (Own.made0 _ _ _ _ (Nat.le_refl _) _ rfl) ((Ext.refl _).alloc _) (rd_take HR3.out _) hb1.out ?_; intro v1 w1 ho1 hx1; rw [List.nil_append] at ho1))
              go_roundw
              case rel => exact ⟨k + 1, by omega, by go_num, ⟨_, hput.out, by rw [natI_app, natI_app, natI_take, natI_drop]; exact ho3.lower hsz.out, (hx.trans hx0).trans hx3⟩⟩
              case measure => simp [intOf]; omega
    · obtain rfl : n = k := by omega
      go_wp2
      go_ret
      exact ⟨_, _, rfl, hs, ho, hx⟩
end Go.Proofs.Ytkepmkdnmmofmaa
