/-
  Bytes as a string: what a conversion hands back; two of them compared. Conditions: slices that are read lie in memory; they are bytes.
-/
import Derived.Test.YtkepmkdnmmofmaaOpen
import Derived.Laws.BytesArg
set_option linter.unusedVariables false
set_option linter.unusedSimpArgs false
namespace Go.Proofs.Ytkepmkdnmmofmaa
open Go.RowKit

theorem RdK.spot {q : IntKind} {w : World} {ad : Addr} {xs : List Int} (h : RdK q w (some ad) xs) (h0 : 0 < xs.length) : ad.spot = none := by
  obtain ⟨ad', e1, hc⟩ := h.2 0 h0
  injection e1 with e1; subst e1
  have e2 : ad.add 0 = ad := by simp [Addr.add]
  rw [e2] at hc
  unfold World.cell? at hc
  cases hs : ad.spot with
  | none => rfl
  | some s => rw [hs] at hc; split at hc <;> simp at hc
theorem run_str {P : Program} {w : World} {A : Option Addr} {xs : List Int} (h : RdK .u8 w A xs) (src e dst : TypeId) (hs : P.underlying src = some (.slice e)) (he : P.underlying e = some (.int .u8)) (hd : P.underlying dst = some .string) (c : Nat) :
    (convert src dst (.slice A xs.length c)).run P w = .ok (.string (strOfNums xs)) w := by
  cases A with
  | none =>
    obtain rfl := h.empty_of
    exact run_convert_bytes_nil w src e hs he _ _ dst hd
  | some ad =>
    rcases Nat.eq_zero_or_pos xs.length with h0 | h0
    · obtain rfl := List.eq_nil_of_length_eq_zero h0
      rw [run_convert_bytes_string w src dst e _ _ _ hs he hd]
      simp [Conv.bytesToString, strOfNums]
      rfl
    · obtain ⟨b, o, s⟩ := ad
      obtain rfl : s = none := h.spot h0
      refine run_convert_bytes_arg w src e hs he b o xs.length c xs rfl (fun i hi => ?_) dst hd
      obtain ⟨ad', e1, hc⟩ := h.2 i hi
      injection e1 with e1; subst e1
      have e2 : (⟨b, o, none⟩ : Addr).add i = ⟨b, o + i, none⟩ := by unfold Addr.add; split <;> simp_all
      rw [e2] at hc
      exact hc
theorem strOf_inj {xs ys : List Int} (h : Bytes xs) (h' : Bytes ys) : ((strOfNums xs).toList == (strOfNums ys).toList) = eqL xs ys := by
  unfold eqL
  rw [Bool.eq_iff_iff]
  simp only [beq_iff_eq, decide_eq_true_eq]
  constructor
  · intro he
    have he2 : (xs.map fun n => UInt8.ofNat n.toNat) = ys.map fun n => UInt8.ofNat n.toNat := by
      rwa [← strOfNums_data, ← strOfNums_data, ← ByteArray.toList_eq, ← ByteArray.toList_eq]
    have key : ∀ (xs ys : List Int), Bytes xs → Bytes ys → ((xs.map fun n => UInt8.ofNat n.toNat) = ys.map fun n => UInt8.ofNat n.toNat) → xs = ys := by
      intro xs
      induction xs with
      | nil => intro ys _ _ h; cases ys with | nil => rfl | cons y ys => simp at h
      | cons x xs ih =>
        intro ys h h' he
        cases ys with
        | nil => simp at he
        | cons y ys =>
          simp only [List.map_cons, List.cons.injEq] at he
          have e1 := ih ys (fun z hz => h z (by simp [hz])) (fun z hz => h' z (by simp [hz])) he.2
          have hx := h x (by simp)
          have hy := h' y (by simp)
          have e2 : (UInt8.ofNat x.toNat).toNat = (UInt8.ofNat y.toNat).toNat := by rw [he.1]
          simp only [UInt8.toNat_ofNat'] at e2
          rw [e1, show x = y by omega]
    exact key xs ys h h' he2
  · rintro rfl; rfl
end Go.Proofs.Ytkepmkdnmmofmaa
