/-
  The package radix: keys in order, walked. Conditions: slices that are read lie in memory, and hold 64 bits each.
-/
import Derived.Test.YtkepmkdnmmofmaaRadix
set_option linter.unusedVariables false
set_option linter.unusedSimpArgs false
namespace Go.Proofs.Ytkepmkdnmmofmaa
open Go.RowKit

/-- Two rows of the call's own, the order, and the next one; nothing else has turned. -/
structure Two (F : Nat → Prop) (w wr : World) (go gn n : Nat) (fo fn : Nat → Nat) : Prop where
  chg : Chg F w wr
  ro : RowF wr go 3 n fo
  rn : RowF wr gn 3 n fn
abbrev FF (go gn : Nat) : Nat → Prop := fun i => i = go ∨ i = gn
structure Rx1 (w wr : World) (go gn n k : Nat) : Prop where mk :: (out : ∃ fo fn, Two (FF go gn) w wr go gn n fo fn ∧ ∀ j, j < k → fo j = j)
structure Rx2 (w wr : World) (go gn n : Nat) (o : List Nat) : Prop where mk :: (out : ∃ fn, Two (FF go gn) w wr go gn n (nthN o) fn)
structure Rx3 (w wr : World) (go gn gf n : Nat) (o : List Nat) (Q : (Nat → Nat) → Prop) : Prop where mk :: (out : ∃ fn ff, Two (FF go gn) w wr go gn n (nthN o) fn ∧ RowF wr gf 81 257 ff ∧ Q ff)
structure Rx4 (w wr : World) (go gn gf n : Nat) (o : List Nat) (Q : (Nat → Nat) → (Nat → Nat) → Prop) : Prop where mk :: (out : ∃ fn ff, Two (FF go gn) w wr go gn n (nthN o) fn ∧ RowF wr gf 81 257 ff ∧ Q ff fn)
theorem Two.setO {w wr : World} {go gn n : Nat} {fo fn : Nat → Nat} (h : Two (FF go gn) w wr go gn n fo fn) (hne : go ≠ gn) (j x : Nat) : Two (FF go gn) w (wr.setCell ⟨go, j, none⟩ (.int .i64 (x : Int))) go gn n (updN fo j x) fn :=
  ⟨h.chg.set go j (.inl (.inl rfl)) _, h.ro.set j x, h.rn.other hne j _⟩
theorem Two.setN {w wr : World} {go gn n : Nat} {fo fn : Nat → Nat} (h : Two (FF go gn) w wr go gn n fo fn) (hne : go ≠ gn) (j x : Nat) : Two (FF go gn) w (wr.setCell ⟨gn, j, none⟩ (.int .i64 (x : Int))) go gn n fo (updN fn j x) :=
  ⟨h.chg.set gn j (.inl (.inr rfl)) _, h.ro.other (Ne.symm hne) j _, h.rn.set j x⟩
theorem Two.setF {w wr : World} {go gn n gf : Nat} {fo fn : Nat → Nat} (h : Two (FF go gn) w wr go gn n fo fn) (h1 : w.heap.size ≤ gf) (h2 : gf ≠ go) (h3 : gf ≠ gn) (j : Nat) (v : Value) : Two (FF go gn) w (wr.setCell ⟨gf, j, none⟩ v) go gn n fo fn :=
  ⟨h.chg.set gf j (.inr h1) _, h.ro.other h2 j _, h.rn.other h3 j _⟩
structure Made (w : World) (n : Nat) (s t : Value) (wx : World) : Prop where mk :: (out : ∃ go gn, s = .slice (some ⟨go, 0, none⟩) n n ∧ t = .slice (some ⟨gn, 0, none⟩) n n ∧ w.heap.size ≤ go ∧ w.heap.size ≤ gn ∧ go ≠ gn ∧ Ext w wx ∧ RowF wx go 3 n (fun _ => 0) ∧ RowF wx gn 3 n (fun _ => 0))
theorem order_nil (A : Option Addr) (c : Nat) (w : World) : Calls Try.prog 15 #[.slice A 0 c] w (RetRow 3 .i64 w []) := by
  go_enter Try.func15, Try.ntmps15
  go_wp2
  go_ret
  exact ⟨_, rfl, Own.nil _ _ _ _, Ext.refl _⟩
theorem zeros257 : Try.zeroCells81 = (List.replicate 257 (Value.int .i64 0)).toArray := by kernel_rfl
theorem from_new (w : World) (n : Nat) (hn : n = w.heap.size) : RowF (w.alloc (.cells Try.zeroCells81 81)) n 81 257 (fun _ => 0) := by
  refine ⟨⟨_, Lies.new _ _ _ _ hn, by rw [zeros257, List.size_toArray, List.length_replicate], fun j hj => ?_⟩⟩
  rw [zeros257, List.getElem?_toArray, List.getElem?_replicate, if_pos hj]; rfl
theorem nth_nat (l : List Nat) (k : Nat) (h : k < l.length) : nth (l.map Int.ofNat) k = (nthN l k : Int) := by
  rw [nth_get _ _ (by simpa using h), nthN_get _ _ h]; simp
theorem dealt_len (key : Nat → Nat) (ds o : List Nat) : (dealt key ds o).length = o.length := (dealt_perm key ds o).length_eq
theorem dealt_next (key : Nat → Nat) (ds : List Nat) (k : Nat) (o : List Nat) (h : k < ds.length) : dealt key (ds.take (k + 1)) o = buck (dig key (nthN ds k)) (dealt key (ds.take k) o) 256 := by
  rw [take_next ds k h, dealt_snoc]
theorem dealt_in {key : Nat → Nat} {ds : List Nat} {n j : Nat} (h : j < n) : nthN (dealt key ds (List.range n)) j < n := by
  have := nthN_mem (dealt key ds (List.range n)) j (by rw [dealt_len]; simpa using h)
  simpa using (dealt_perm key ds (List.range n)).mem_iff.1 this
/-- Where a key lies, in every world of the loops: below a block. -/
structure KeysAt (B : Nat) (w : World) (ad : Addr) (n : Nat) (key : Nat → Nat) : Prop where mk ::
  (out : ad.block < B ∧ ∀ i, i < n → w.cell? (ad.add i) = some (.int .u64 (key i : Int)))
theorem KeysAt.two {w2 wr : World} {ad : Addr} {n m go gn B : Nat} {key fo fn : Nat → Nat} (h : KeysAt B w2 ad n key) (ht : Two (FF go gn) w2 wr go gn m fo fn) (h1 : B ≤ go) (h2 : B ≤ gn) : KeysAt B wr ad n key :=
  ⟨h.out.1, fun i hi => by
    have hb := h.out.1
    refine ht.chg.cell ?_ (h.out.2 i hi)
    rw [add_block]
    rintro (e1 | e1) <;> omega⟩
theorem KeysAt.ext {w w2 : World} {ad : Addr} {n B : Nat} {key : Nat → Nat} (h : KeysAt B w ad n key) (hx : Ext w w2) : KeysAt B w2 ad n key :=
  ⟨h.out.1, fun i hi => hx.cell (h.out.2 i hi)⟩
theorem Two.alloc {w wr : World} {go gn n : Nat} {fo fn : Nat → Nat} (h : Two (FF go gn) w wr go gn n fo fn) (o : Obj) : Two (FF go gn) w (wr.alloc o) go gn n fo fn :=
  ⟨h.chg.alloc o, h.ro.ext ((Ext.refl _).alloc _), h.rn.ext ((Ext.refl _).alloc _)⟩
theorem Two.ext {w wr w' : World} {go gn n : Nat} {fo fn : Nat → Nat} (h : Two (FF go gn) w wr go gn n fo fn) (hx : Ext wr w') : Two (FF go gn) w w' go gn n fo fn :=
  ⟨h.chg.ext hx, h.ro.ext hx, h.rn.ext hx⟩
theorem cast_succ (a : Nat) : ((a + 1 : Nat) : Int) = (a : Int) + 1 := by push_cast; rfl
theorem rx3_count {w wr : World} {go gn gf n j : Nat} {o : List Nat} {d fn ff : Nat → Nat} (hB : w.heap.size ≤ gf) (h2 : gf ≠ go) (h3 : gf ≠ gn) (ht : Two (FF go gn) w wr go gn n (nthN o) fn) (hf : RowF wr gf 81 257 ff)
    (hq : CntP d o j ff) (hol : o.length = n) (hj : j < n) (hd : ∀ i, d i < 256) : Rx3 w (wr.setCell ⟨gf, d (nthN o j) + 1, none⟩ (.int .i64 ((ff (d (nthN o j) + 1) : Int) + 1))) go gn gf n o (CntP d o (j + 1)) := by
  rw [← cast_succ]
  exact ⟨⟨fn, _, ht.setF hB h2 h3 _ _, hf.set _ _, cntP_succ hq (by omega) hd⟩⟩
theorem rx3_pre {w wr : World} {go gn gf n c : Nat} {o : List Nat} {d fn ff : Nat → Nat} (hB : w.heap.size ≤ gf) (h2 : gf ≠ go) (h3 : gf ≠ gn) (ht : Two (FF go gn) w wr go gn n (nthN o) fn) (hf : RowF wr gf 81 257 ff)
    (hq : PreP d o c ff) (hc : c < 256) : Rx3 w (wr.setCell ⟨gf, c + 1, none⟩ (.int .i64 ((ff (c + 1) : Int) + (ff c : Int)))) go gn gf n o (PreP d o (c + 1)) := by
  have e : ((ff (c + 1) : Int) + (ff c : Int)) = ((ff (c + 1) + ff c : Nat) : Int) := by push_cast; rfl
  rw [e]
  exact ⟨⟨fn, _, ht.setF hB h2 h3 _ _, hf.set _ _, preP_succ hq hc⟩⟩
theorem Rx3.ext {w wr w' : World} {go gn gf n : Nat} {o : List Nat} {Q : (Nat → Nat) → Prop} (h : Rx3 w wr go gn gf n o Q) (hx : Ext wr w') : Rx3 w w' go gn gf n o Q := by
  obtain ⟨fn, ff, h1, h2, h3⟩ := h.out
  exact ⟨⟨fn, ff, h1.ext hx, h2.ext hx, h3⟩⟩
theorem rx2_copy {w wr w' : World} {go gn n : Nat} {o : List Nat} {fn : Nat → Nat} {d ff : Nat → Nat} (ht : Two (FF go gn) w wr go gn n (nthN o) fn) (h1 : go ≠ gn) (hq : DealP d o n ff fn) (hol : o.length = n) (hd : ∀ i, d i < 256)
    (hr : RowF w' go 3 n fn) (hc : Chg (fun i => i = go) wr w') : Rx2 w w' go gn n (buck d o 256) := by
  subst hol
  exact ⟨⟨fn, ht.chg.trans hc (fun i _ h => .inl h), hr.congr (fun j hj => dealP_end hq hd j hj), ht.rn.chg hc (Ne.symm h1)⟩⟩
theorem rx4_deal {w wr : World} {go gn gf n j : Nat} {o : List Nat} {d fn ff : Nat → Nat} (hB : w.heap.size ≤ gf) (h1 : go ≠ gn) (h2 : gf ≠ go) (h3 : gf ≠ gn) (ht : Two (FF go gn) w wr go gn n (nthN o) fn) (hf : RowF wr gf 81 257 ff)
    (hq : DealP d o j ff fn) (hol : o.length = n) (hj : j < n) (hd : ∀ i, d i < 256) :
    Rx4 w ((wr.setCell ⟨gn, ff (d (nthN o j)), none⟩ (.int .i64 (nthN o j : Int))).setCell ⟨gf, d (nthN o j), none⟩ (.int .i64 ((ff (d (nthN o j)) : Int) + 1))) go gn gf n o (DealP d o (j + 1)) := by
  rw [← cast_succ]
  exact ⟨⟨_, _, (ht.setN h1 _ _).setF hB h2 h3 _ _, (hf.other (Ne.symm h3) _ _).set _ _, dealP_succ hq (by omega) hd⟩⟩
theorem made_two (w : World) (n : Nat) (X Y : Obj) (hX : X = .cells (madeCells #[.int .i64 0] n) 3) (hY : Y = .cells (madeCells #[.int .i64 0] n) 3) (s t : Value)
    (h : (s = .slice (some ⟨w.heap.size, 0, none⟩) n n ∧ t = .slice (some ⟨w.heap.size + 1, 0, none⟩) n n) ∨ (t = .slice (some ⟨w.heap.size, 0, none⟩) n n ∧ s = .slice (some ⟨w.heap.size + 1, 0, none⟩) n n)) : Made w n s t (((w.alloc X).alloc Y).drew) := by
  subst hX hY
  have hx : Ext w (((w.alloc (.cells (madeCells #[.int .i64 0] n) 3)).alloc (.cells (madeCells #[.int .i64 0] n) 3)).drew) := by (repeat (first | exact Ext.refl _ | assumption | (with_reducible refine Ext.alloc ?_ _) | (with_reducible refine Ext.drew ?_) | (with_reducible refine Ext.drewN ?_ _) | (refine Ext.trans ?_ (by assumption))))
  have r1 := (RowF.made w 3 n _ rfl).ext (w' := ((w.alloc (.cells (madeCells #[.int .i64 0] n) 3)).alloc (.cells (madeCells #[.int .i64 0] n) 3)).drew) (((Ext.refl _).alloc _).drew)
  have r2 := (RowF.made (w.alloc (.cells (madeCells #[.int .i64 0] n) 3)) 3 n (w.heap.size + 1) (by simp)).ext (w' := ((w.alloc (.cells (madeCells #[.int .i64 0] n) 3)).alloc (.cells (madeCells #[.int .i64 0] n) 3)).drew) ((Ext.refl _).drew)
  rcases h with ⟨rfl, rfl⟩ | ⟨rfl, rfl⟩
  · exact ⟨⟨_, _, rfl, rfl, Nat.le_refl _, by omega, by omega, hx, r1, r2⟩⟩
  · exact ⟨⟨_, _, rfl, rfl, by omega, Nat.le_refl _, by omega, hx, r2, r1⟩⟩

set_option maxRecDepth 20000 in
set_option maxHeartbeats 4000000 in
theorem order_any (A : Option Addr) (c : Nat) (xs : List Int) (w : World) (h : RdK .u64 w A xs) (hu : U64s xs) (hl : xs.length ≤ 1000) :
    Calls Try.prog 15 #[.slice A xs.length c] w (RetRow 3 .i64 w ((dealt (keyN xs) (difs (keyN xs) xs.length 8) (List.range xs.length)).map Int.ofNat)) := by
  rcases Nat.eq_zero_or_pos xs.length with h0 | h0
  · have hx : xs = [] := List.eq_nil_of_length_eq_zero h0
    subst hx
    exact order_nil A c w
  have hdl := fun w1 (hx : Ext w w1) => deals_any _ c xs w1 (h.ext hx) hu
  obtain ⟨ad, rfl, _⟩ := h.2 0 h0
  have hka : KeysAt w.heap.size w ad xs.length (keyN xs) := ⟨h.blk ad rfl h0, fun i hi => by
    obtain ⟨ad', e, hc⟩ := h.2 i hi
    injection e with e; subst e
    rwa [keyN_eq hu i hi] at hc⟩
  have hkl := keyN_lt hu
  clear h hu
  generalize hds : difs (keyN xs) xs.length 8 = ds at *
  have hd8 : ∀ j, j < ds.length → nthN ds j < 8 := fun j hj => difs_mem (key := keyN xs) (n := xs.length) (by rw [hds]; exact nthN_mem ds j hj)
  have hdl8 : ds.length ≤ 8 := by rw [← hds]; exact difs_len _ _ _
  clear hds
  generalize keyN xs = key at *
  generalize xs.length = n at *
  have HD := Lib.hid hdl; clear hdl
  have HD8 := Lib.hid hd8; clear hd8
  have HK := Lib.hid hka; clear hka
  have HKL := Lib.hid hkl; clear hkl
  have hmk : ∀ w, (Instr.makeSlice 24 (.int .i64 (n : Int)) (.int .i64 (n : Int))).run Try.prog w = .ok (.slice (some ⟨w.heap.size, 0, none⟩) n n) (w.alloc (.cells (madeCells #[.int .i64 0] n) 3)) :=
    fun w => run_make_row' 24 3 (.int .i64 0) 8 Try.underlying24 rinfo_int rfl .i64 .i64 n (by omega) (by omega) w
  go_enter Try.func15, Try.ntmps15
  go_upto_region 3 with (fail)
  go_cut [3, 4] (fun s t wx => Made w n s t wx)
  case first =>
    go_region_held3 (fun _ => True) (trivial) (fail)
    all_goals (go_wp2_with fail; go_meet)
    · exact made_two w n _ _ rfl rfl _ _ (.inl ⟨rfl, rfl⟩)
    · exact made_two w n _ _ rfl rfl _ _ (.inr ⟨rfl, rfl⟩)
  case rest =>
    clear hmk
    obtain ⟨go, gn, rfl, rfl, hgo, hgn, hne, hx, hro, hrn⟩ := hcut
    generalize wc = w0 at *
    go_wp2
    go_loopw [5, 26] (fun _ i wr => ∃ k : Nat, k ≤ n ∧ i = .int .i64 k ∧ Rx1 w0 wr go gn n k) (fun _ i _ => n - (intOf i).toNat)
    case atStart => exact ⟨0, by omega, rfl, ⟨_, _, ⟨Chg.refl _ _, hro, hrn⟩, fun j hj => by omega⟩⟩
    case round =>
      obtain ⟨k, hk, rfl, fo, fn, ht, hf⟩ := hrel
      have HF := Lib.hid hf; clear hf
      by_cases hlt : k < n
      · obtain ⟨h1, h2⟩ := ht.ro.at_ k hlt
        have hs := Lib.hid (ht.setO hne k k)
        go_wp2
        go_roundw
        case rel =>
          refine ⟨k + 1, by omega, by go_num, ⟨_, _, hs.out, fun j hj => ?_⟩⟩
          unfold updN; split
          · omega
          · exact HF.out j (by omega)
        case measure => simp [intOf]; omega
      · obtain rfl : n = k := by omega
        have ht2 : Two (FF go gn) w0 wr go gn n (nthN (dealt key (ds.take 0) (List.range n))) fn := ⟨ht.chg, ht.ro.congr (fun j hj => by
          rw [HF.out j hj]
          have e : dealt key (ds.take 0) (List.range n) = List.range n := rfl
          rw [e, nthN_get _ _ (by simpa using hj)]; simp), ht.rn⟩
        clear ht
        have HT2 := Lib.hid ht2; clear ht2
        obtain ⟨w1, rfl⟩ : ∃ w1 : World, w1 = wr := ⟨_, rfl⟩
        have hx1 : Ext w w1 := ((hx.chg (FF go gn)).trans HT2.out.chg (fun _ _ h => h)).low (fun i hi h => by rcases h with h | h <;> omega)
        have hgo1 : go < w1.heap.size := HT2.out.ro.lt
        have hgn1 : gn < w1.heap.size := HT2.out.rn.lt
        go_wp2_with (go_at_call 57; (with_reducible refine (HD.out _ hx1).mono ?_); rintro e w2 ⟨vd, rfl, hvd, hx2⟩; obtain ⟨A2, c2, rfl, hr2, _⟩ := hvd.read; rw [List.length_map])
        have hb2 := Lib.hid hvd.blk
        have hka2 := Lib.hid (HK.out.ext (hx1.trans hx2))
        have hr3 := Lib.hid hr2; clear hr2 hvd
        have ht3 : Rx2 w2 w2 go gn n (dealt key (ds.take 0) (List.range n)) := ⟨_, Chg.refl _ _, HT2.out.ro.ext hx2, HT2.out.rn.ext hx2⟩
        have hgo2 : go < w2.heap.size := Nat.lt_of_lt_of_le hgo1 hx2.size
        have hgn2 : gn < w2.heap.size := Nat.lt_of_lt_of_le hgn1 hx2.size
        have hw2 := hx2.size
        go_loopw [7, 8, 10, 11, 13, 14, 37, 41, 42, 43, 59, 72, 73, 74] (fun _ _ _ _ _ _ i _ _ _ _ _ _ _ wq => ∃ k : Nat, k ≤ ds.length ∧ i = .int .i64 k ∧ Rx2 w2 wq go gn n (dealt key (ds.take k) (List.range n))) (fun _ _ _ _ _ _ i _ _ _ _ _ _ _ _ => ds.length - (intOf i).toNat)
        case atStart => exact ⟨0, by omega, rfl, ht3⟩
        case round =>
          obtain ⟨k, hk, rfl, fn, ht⟩ := hrel
          obtain ⟨wq, rfl⟩ : ∃ wq : World, wq = wr := ⟨_, rfl⟩
          by_cases hlt : k < ds.length
          · have hl' : k < (ds.map Int.ofNat).length := by simpa using hlt
            obtain ⟨ad2, rfl, hc2⟩ := hr3.out.2 k hl'
            have hb3 := hb2.out ad2 rfl
            have hc3 := ht.chg.cell (a := ad2.add k) (by rw [add_block]; rintro (e | e) <;> omega) hc2
            rw [nth_nat _ _ hlt] at hc3
            have hkd := HD8.out k hlt
            have hnx := Lib.hid (dealt_next key ds k (List.range n) hlt)
            have hin := Lib.hid (fun j (hj : j < n) => dealt_in (key := key) (ds := ds.take k) hj)
            have hol := Lib.hid (dealt_len key (ds.take k) (List.range n))
            rw [List.length_range] at hol
            generalize dealt key (ds.take k) (List.range n) = o at *
            generalize nthN ds k = kd at *
            have hdg : Hid (∀ i w', Calls Try.prog 58 #[.int .u64 (key i : Int), .int .i64 (kd : Int)] w' fun e w'' => e = .returned (.int .i64 (dig key kd i : Int)) ∧ w' = w'') := fun i w' => digit_any (key i) kd w' (HKL.out i) hkd
            have hd := Lib.hid (dig_lt key kd)
            generalize dig key kd = d at *
            clear hc2 hb3 hl'
            have hgf1 : w2.heap.size ≤ wq.heap.size := ht.chg.size
            have hnew := Lib.hid (from_new wq _ rfl)
            go_wp2
            generalize wq.heap.size = gf at *
            have hgf2 : gf ≠ go := by omega
            have hgf3 : gf ≠ gn := by omega
            go_loopw [10, 43] (fun _ i wf => ∃ j : Nat, j ≤ n ∧ i = .int .i64 j ∧ Rx3 w2 wf go gn gf n o (CntP d o j)) (fun _ i _ => n - (intOf i).toNat)
            case atStart => exact ⟨0, by omega, rfl, ⟨_, _, ht.alloc _, hnew.out, cntP_zero _ _⟩⟩
            case round =>
              obtain ⟨j, hj, rfl, fn1, ff, ht1, hf1, hq⟩ := hrel
              have HQ := Lib.hid hq; clear hq
              by_cases hj2 : j < n
              · obtain ⟨h1, _⟩ := ht1.ro.at_ j hj2
                have hk1 := (hka2.out.two ht1 hgo hgn).out.2 _ (hin.out j hj2)
                have hdi := hd.out (nthN o j)
                obtain ⟨h3, h4⟩ := hf1.at_ (d (nthN o j) + 1) (by omega)
                have hle := cntP_le HQ.out (d (nthN o j) + 1) (by omega)
                rw [hol.out] at hle
                have hs := Lib.hid (rx3_count hgf1 hgf2 hgf3 ht1 hf1 HQ.out hol.out hj2 hd.out)
                have hio := hin.out j hj2
                generalize nthN o j = i at *
                go_wp2_with (go_at_call 58; (with_reducible refine (hdg.out _ _).mono ?_); rintro e w' ⟨rfl, rfl⟩)
                go_roundw
                case rel => exact ⟨j + 1, by omega, by go_num, hs.out⟩
                case measure => simp [intOf]; omega
              · obtain rfl : n = j := by omega
                have hpz := preP_zero (by rw [hol.out]; exact HQ.out)
                have HPZ := Lib.hid hpz; clear hpz
                obtain ⟨wg, rfl⟩ : ∃ wg : World, wg = wr := ⟨_, rfl⟩
                go_wp2
                go_loopw [11, 59] (fun _ i wf => ∃ c : Nat, c ≤ 256 ∧ i = .int .i64 c ∧ Rx3 w2 wf go gn gf n o (PreP d o c)) (fun _ i _ => 256 - (intOf i).toNat)
                case atStart => exact ⟨0, by omega, rfl, ⟨_, _, ht1, hf1, HPZ.out⟩⟩
                case round =>
                  obtain ⟨c, hc, rfl, fn2, ff2, ht2, hf2, hq⟩ := hrel
                  have HQ := Lib.hid hq; clear hq
                  by_cases hc2 : c < 256
                  · obtain ⟨h3, h4⟩ := hf2.at_ (c + 1) (by omega)
                    obtain ⟨h5, _⟩ := hf2.at_ c (by omega)
                    have hle := preP_le HQ.out c (by omega)
                    have hle2 := preP_le HQ.out (c + 1) (by omega)
                    rw [hol.out] at hle hle2
                    have hs := Lib.hid (rx3_pre hgf1 hgf2 hgf3 ht2 hf2 HQ.out hc2)
                    go_wp2
                    go_region
                    all_goals go_wp2
                    go_roundw
                    case rel => exact ⟨c + 1, by omega, by go_num, hs.out.ext ((Ext.refl _).drew)⟩
                    case measure => simp [intOf]; omega
                  · obtain rfl : c = 256 := by omega
                    have hdz := Lib.hid (dealP_zero (fn := fn2) HQ.out)
                    obtain ⟨wg2, rfl⟩ : ∃ wg : World, wg = wr := ⟨_, rfl⟩
                    rw [show ((256 : Nat) : Int) = 256 from rfl]
                    go_wp2
                    go_loopw [13, 14, 74] (fun _ _ i wf => ∃ j : Nat, j ≤ n ∧ i = .int .i64 j ∧ Rx4 w2 wf go gn gf n o (DealP d o j)) (fun _ _ i _ => n - (intOf i).toNat)
                    case atStart => exact ⟨0, by omega, rfl, ⟨_, _, ht2, hf2, hdz.out⟩⟩
                    case round =>
                      obtain ⟨j, hj, rfl, fn3, ff3, ht3, hf3, hq⟩ := hrel
                      have HQ3 := Lib.hid hq; clear hq
                      by_cases hj2 : j < n
                      · obtain ⟨h1, _⟩ := ht3.ro.at_ j hj2
                        have hk1 := (hka2.out.two ht3 hgo hgn).out.2 _ (hin.out j hj2)
                        have hdi := hd.out (nthN o j)
                        have hle := dealP_lt HQ3.out (by rw [hol.out]; exact hj2) hd.out
                        rw [hol.out] at hle
                        obtain ⟨h3, h4⟩ := hf3.at_ (d (nthN o j)) (by omega)
                        obtain ⟨h5, h6⟩ := ht3.rn.at_ _ hle
                        have hs := Lib.hid (rx4_deal hgf1 hne hgf2 hgf3 ht3 hf3 HQ3.out hol.out hj2 hd.out)
                        obtain ⟨h7, h8⟩ := (hf3.other (Ne.symm hgf3) (ff3 (d (nthN o j))) (.int .i64 (nthN o j : Int))).at_ (d (nthN o j)) (by omega)
                        have hio := hin.out j hj2
                        generalize nthN o j = i at *
                        go_wp2_with (go_at_call 58; (with_reducible refine (hdg.out _ _).mono ?_); rintro e w' ⟨rfl, rfl⟩)
                        go_roundw
                        case rel => exact ⟨j + 1, by omega, by go_num, hs.out⟩
                        case measure => simp [intOf]; omega
                      · obtain rfl : n = j := by omega
                        have hcp := fun w' hr hc => rx2_copy (w' := w') ht3 hne HQ3.out hol.out hd.out hr hc
                        have HCP := Lib.hid hcp; clear hcp
                        have hro3 := Lib.hid ht3.ro
                        have hrn3 := Lib.hid ht3.rn
                        go_wp2_with (refine copy_rowF Try.underlying24 (by kernel_rfl) rfl rfl hro3.out hrn3.out ?_; intro w' hr' hc')
                        go_roundw
                        case rel => exact ⟨k + 1, by omega, by go_num, by rw [hnx.out]; exact HCP.out _ hr' hc'⟩
                        case measure => simp [intOf]; omega
          · obtain rfl : ds.length = k := by omega
            have HT3 := Lib.hid ht; clear ht
            rw [List.take_length] at HT3
            have hend : RetRow 3 .i64 w ((dealt key ds (List.range n)).map Int.ofNat) (.returned (.slice (some ⟨go, 0, none⟩) n n)) wq := by
              have hx3 : Ext w wq := (((hx1.trans hx2).chg (FF go gn)).trans HT3.out.chg (fun _ _ h => h)).low (fun i hi h => by rcases h with h | h <;> omega)
              refine ⟨_, rfl, ?_, hx3⟩
              have h1 := HT3.out.ro.own w.heap.size hgo (by simp only [maxLen]; omega)
              have e : (List.range n).map (fun j => (nthN (dealt key ds (List.range n)) j : Int)) = (dealt key ds (List.range n)).map Int.ofNat := by
                have hl := dealt_len key ds (List.range n)
                rw [List.length_range] at hl
                generalize dealt key ds (List.range n) = o at *
                apply List.ext_getElem
                · simp [hl]
                · intro i h1 h2
                  simp only [List.length_map, List.length_range] at h1
                  simp [nthN_get o i (by omega)]
              rwa [e] at h1
            have HEND := Lib.hid hend; clear hend
            go_wp2
            go_ret
            exact HEND.out
end Go.Proofs.Ytkepmkdnmmofmaa
