/-
  The package fix: what each of its functions hands back, for any numbers. Conditions: a slice that is read lies in memory as the walk's word RdI says.
-/
import Derived.Test.YtmgckodihnmjoaaW
import Derived.Test.YtmgckodihnmjoaaProg
set_option linter.unusedVariables false
set_option linter.unusedSimpArgs false
namespace Go.Proofs.Ytmgckodihnmjoaa
open Go.RowKit

def inB (x : Int) : Bool := decide (-2147483648 ≤ x) && decide (x ≤ 2147483647)
theorem inB_t {x : Int} (h : -2147483648 ≤ x) (h' : x ≤ 2147483647) : inB x = true := by simp [inB, h, h']
theorem inB_f1 {x : Int} (h : x < -2147483648) : inB x = false := by simp [inB]; omega
theorem inB_iff (x : Int) : inB x = true ↔ -2147483648 ≤ x ∧ x ≤ 2147483647 := by simp [inB]

set_option maxHeartbeats 400000 in
theorem in_any (x : Int) (w : World) :
    Calls Try.prog 111 #[.int .i64 x] w fun e w' => e = .returned (.bool (inB x)) ∧ w = w' := by
  go_enter Try.func111, Try.ntmps111
  go_wp2
  all_goals go_ret
  · refine ⟨ret_eq ?_, rfl⟩; show Value.bool (decide _) = _; simp [inB]; omega
  · refine ⟨ret_eq ?_, rfl⟩; rw [inB_f1 ‹_›]; rfl

set_option maxHeartbeats 400000 in
theorem right1_any (x : Int) (w : World) :
    Calls Try.prog 115 #[.int .i64 x] w fun e w' => e = .returned (.bool (!inB x)) ∧ w = w' := by
  go_enter Try.func115, Try.ntmps115
  go_wp2_with (go_at_call 111; refine (in_any _ _).mono ?_; rintro e w' ⟨rfl, rfl⟩)
  go_ret
  exact ⟨rfl, rfl⟩

set_option maxHeartbeats 400000 in
theorem idxF_any (p : Int → Bool) (w : World) (hf : ∀ x, Calls Try.prog 115 #[.int .i64 x] w fun e w' => e = .returned (.bool (p x)) ∧ w = w') (A : Option Addr) (c : Nat) (xs : List Int) (h : RdI w A xs) :
    Calls Try.prog 123 #[.slice A xs.length c, .func (.func 115) #[] #[]] w fun e w' => e = .returned (.int .i64 (idxOf p xs)) ∧ w = w' := by
  obtain ⟨hlen, hr⟩ := h
  have HR := Lib.hid hr; clear hr
  have HF := Lib.hid hf; clear hf
  go_enter Try.func123, Try.ntmps123
  go_wp2
  go_loop [5, 8] (fun _ i => ∃ k : Nat, k ≤ xs.length ∧ i = .int .i64 k ∧ Before p xs k) (fun _ i => xs.length - (intOf i).toNat)
  case atStart => exact ⟨0, by omega, rfl, before_zero _ _⟩
  case round =>
    obtain ⟨k, hk, rfl, hn⟩ := hrel
    by_cases hlt : k < xs.length
    · obtain ⟨ad, rfl, hc⟩ := HR.out k hlt
      cases hp : p (nth xs k)
      · have hbs := before_succ hn hp
        go_wp2_with (go_at_call 115; refine (HF.out _).mono ?_; rintro e w' ⟨rfl, rfl⟩)
        go_round
        case rel => exact ⟨k+1, by omega, by go_num, hbs⟩
        case measure => simp [intOf]; omega
      · have hhit := Lib.hid (idxOf_hit p xs k hlt hn hp)
        go_wp2_with (go_at_call 115; refine (HF.out _).mono ?_; rintro e w' ⟨rfl, rfl⟩)
        go_ret
        refine ⟨ret_eq ?_, rfl⟩
        rw [hhit.out]; rfl
    · obtain rfl : k = xs.length := by omega
      have hmiss := Lib.hid (idxOf_miss p xs hn)
      go_wp2
      go_ret
      refine ⟨ret_eq ?_, rfl⟩
      rw [hmiss.out]; rfl

set_option maxHeartbeats 400000 in
theorem containsF_any (p : Int → Bool) (w : World) (hf : ∀ x, Calls Try.prog 115 #[.int .i64 x] w fun e w' => e = .returned (.bool (p x)) ∧ w = w') (A : Option Addr) (c : Nat) (xs : List Int) (h : RdI w A xs) :
    Calls Try.prog 114 #[.slice A xs.length c, .func (.func 115) #[] #[]] w fun e w' => e = .returned (.bool (decide (0 ≤ idxOf p xs))) ∧ w = w' := by
  have H := Lib.hid h; clear h
  have HF := Lib.hid hf; clear hf
  go_enter Try.func114, Try.ntmps114
  go_wp2_with (go_at_call 123; refine (idxF_any p _ HF.out _ _ _ H.out).mono ?_; rintro e w' ⟨rfl, rfl⟩)
  go_ret
  exact ⟨rfl, rfl⟩

def rightL (xs : List Int) : Bool := xs.all inB
theorem rightL_any (xs : List Int) : decide (0 ≤ idxOf (fun x => !inB x) xs) = !rightL xs := by
  rw [any_of_idx, rightL]
  induction xs with
  | nil => rfl
  | cons x xs ih => simp only [List.any_cons, List.all_cons, ih]; cases inB x <;> rfl
theorem rightL_nth {xs : List Int} (h : rightL xs = true) (k : Nat) (hk : k < xs.length) : -2147483648 ≤ nth xs k ∧ nth xs k ≤ 2147483647 :=
  (inB_iff _).1 (List.all_eq_true.1 h _ (nth_mem _ _ hk))

set_option maxHeartbeats 400000 in
theorem right_any (A : Option Addr) (c : Nat) (xs : List Int) (w : World) (h : RdI w A xs) :
    Calls Try.prog 85 #[.slice A xs.length c] w fun e w' => e = .returned (.bool (rightL xs)) ∧ w = w' := by
  have H := Lib.hid h; clear h
  have hi := Lib.hid (rightL_any xs)
  go_enter Try.func85, Try.ntmps85
  go_wp2_with (go_at_call 114; refine (containsF_any (fun x => !inB x) _ (fun x => right1_any x _) _ _ _ H.out).mono ?_; rintro e w' ⟨rfl, rfl⟩; rw [hi.out])
  go_ret
  exact ⟨ret_eq rfl, rfl⟩

def outR (x : Int) : Int := if inB x then x else 0
def outE (x : Int) : Int := if inB x then 0 else 6
theorem outR_t {x : Int} (h : inB x = true) : outR x = x := by simp [outR, h]
theorem outE_t {x : Int} (h : inB x = true) : outE x = 0 := by simp [outE, h]
theorem outR_f {x : Int} (h : inB x = false) : outR x = 0 := by simp [outR, h]
theorem outE_f {x : Int} (h : inB x = false) : outE x = 6 := by simp [outE, h]

set_option maxHeartbeats 400000 in
theorem out_any (x : Int) (w : World) :
    Calls Try.prog 112 #[.int .i64 x] w fun e w' => e = .returned (.tuple #[.int .i64 (outR x), .int .i64 (outE x)]) ∧ w = w' := by
  cases h : inB x
  · go_enter Try.func112, Try.ntmps112
    go_wp2_with (go_at_call 111; refine (in_any _ _).mono ?_; rintro e w' ⟨rfl, rfl⟩)
    go_ret2
    exact ⟨ret2 (outR_f h).symm (outE_f h).symm, rfl⟩
  · go_enter Try.func112, Try.ntmps112
    go_wp2_with (go_at_call 111; refine (in_any _ _).mono ?_; rintro e w' ⟨rfl, rfl⟩)
    go_ret2
    exact ⟨ret2 (outR_t h).symm (outE_t h).symm, rfl⟩

/-- A product; a quotient; a whole number; a sum; a number turned about: the number, and the error's. -/
def mulR (a b : Int) : Int := if rightL [a, b] then outR (a * b / 65536) else 0
def mulE (a b : Int) : Int := if rightL [a, b] then outE (a * b / 65536) else 1
theorem right2 {a b : Int} (h : rightL [a, b] = true) : (-2147483648 ≤ a ∧ a ≤ 2147483647) ∧ -2147483648 ≤ b ∧ b ≤ 2147483647 := by
  have h0 := rightL_nth h 0 (by simp)
  have h1 := rightL_nth h 1 (by simp)
  exact ⟨h0, h1⟩
theorem prod_bd {a b : Int} (ha : -2147483648 ≤ a ∧ a ≤ 2147483647) (hb : -2147483648 ≤ b ∧ b ≤ 2147483647) : -4611686018427387904 ≤ a * b ∧ a * b ≤ 4611686018427387904 := by
  have h1 : a.natAbs ≤ 2147483648 := by omega
  have h2 : b.natAbs ≤ 2147483648 := by omega
  have h3 : (a * b).natAbs ≤ 2147483648 * 2147483648 := by rw [Int.natAbs_mul]; exact Nat.mul_le_mul h1 h2
  omega

set_option maxHeartbeats 400000 in
theorem mul_any (a b : Int) (w : World) :
    Calls Try.prog 82 #[.int .i64 a, .int .i64 b] w fun e w' => e = .returned (.tuple #[.int .i64 (mulR a b), .int .i64 (mulE a b)]) ∧ Ext w w' := by
  cases h : rightL [a, b]
  · go_enter Try.func82, Try.ntmps82
    go_wp2_with (go_at_call 85; refine (right_any _ _ [a, b] _ (rdK_new2 _ _ _ _ _)).mono ?_; rintro e w' ⟨rfl, rfl⟩)
    go_ret2
    exact ⟨ret2 (by simp [mulR, h]) (by simp [mulE, h]), (Ext.refl _).alloc _⟩
  · obtain ⟨hlo, hhi⟩ := prod_bd (right2 h).1 (right2 h).2
    go_enter Try.func82, Try.ntmps82
    go_wp2_with (first | (go_at_call 85; refine (right_any _ _ [a, b] _ (rdK_new2 _ _ _ _ _)).mono ?_; rintro e w' ⟨rfl, rfl⟩) | (go_at_call 112; refine (out_any _ _).mono ?_; rintro e w' ⟨rfl, rfl⟩))
    go_ret2
    exact ⟨ret2 (by simp [mulR, h]) (by simp [mulE, h]), (Ext.refl _).alloc _⟩
end Go.Proofs.Ytmgckodihnmjoaa
