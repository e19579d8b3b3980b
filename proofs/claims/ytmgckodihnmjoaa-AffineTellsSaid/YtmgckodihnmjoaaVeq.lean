/-
  Arrays of numbers compared. Conditions: none. (Printed by tools/genveq.py.)
-/
import Derived.Test.YtmgckodihnmjoaaW5
import Derived.Test.YtmgckodihnmjoaaProg
import Derived.Laws.StructEq
set_option linter.unusedVariables false
set_option linter.unusedSimpArgs false
namespace Go.Proofs.Ytmgckodihnmjoaa
open Go.RowKit

theorem vinfo_F1 : (Try.prog.info? 22).map (·.size) = some 1 := by kernel_rfl
theorem run_part_F (w : World) (cs : Array Value) (i : Nat) (v : Value) (h : cs[i]? = some v) : (part 22 cs i).run Try.prog w = .ok v w := by
  have hagg : (isAgg 22).run Try.prog w = .ok false w := by
    unfold isAgg
    rw [Sem.run_bind, run_underlying Try.underlying22 w]
    rfl
  unfold part
  rw [Sem.run_bind, hagg]
  simp [h]
theorem run_sizeOf_F (w : World) : (sizeOf 22).run Try.prog w = .ok 1 w := by
  have := vinfo_F1
  cases hq : Try.prog.info? 22 with
  | none => simp [hq] at this
  | some inf => simp [hq] at this; simp [sizeOf, typeInfo, hq, this]
set_option maxRecDepth 20000 in
set_option maxHeartbeats 1600000 in
theorem veqIn_run (d : Nat) (w : World) (a0 a1 a2 b0 b1 b2 : Int) : (Op.equalIn (d + 2) 24 (.agg #[.int .i64 a0, .int .i64 a1, .int .i64 a2]) (.agg #[.int .i64 b0, .int .i64 b1, .int .i64 b2])).run Try.prog w = .ok ((a0 == b0) && ((a1 == b1) && (a2 == b2))) w := by
  have p0 := fun w => run_part_F w #[.int .i64 a0, .int .i64 a1, .int .i64 a2] 0 _ rfl
  have q0 := fun w => run_part_F w #[.int .i64 b0, .int .i64 b1, .int .i64 b2] 0 _ rfl
  have p1 := fun w => run_part_F w #[.int .i64 a0, .int .i64 a1, .int .i64 a2] 1 _ rfl
  have q1 := fun w => run_part_F w #[.int .i64 b0, .int .i64 b1, .int .i64 b2] 1 _ rfl
  have p2 := fun w => run_part_F w #[.int .i64 a0, .int .i64 a1, .int .i64 a2] 2 _ rfl
  have q2 := fun w => run_part_F w #[.int .i64 b0, .int .i64 b1, .int .i64 b2] 2 _ rfl
  have e := fun (w : World) (x y : Int) => run_equalIn_int (P := Try.prog) w d 22 .i64 .i64 x y Try.underlying22
  rw [Op.equalIn]
  simp only [Sem.run_bind, run_underlying Try.underlying24, Result.andThen_ok, run_sizeOf_F]
  simp [List.range', p0, q0, p1, q1, p2, q2, e]
  by_cases h0 : a0 = b0
  · simp only [h0, if_true, beq_self_eq_true, Bool.true_and]
    by_cases h1 : a1 = b1
    · simp only [h1, if_true, beq_self_eq_true, Bool.true_and]
      by_cases h2 : a2 = b2
      · simp only [h2, if_true, beq_self_eq_true, Bool.true_and]
      · simp [h2]
    · simp [h1]
  · simp [h0]
theorem veq_run (w : World) (a0 a1 a2 b0 b1 b2 : Int) : (binOp .eql 24 (.agg #[.int .i64 a0, .int .i64 a1, .int .i64 a2]) (.agg #[.int .i64 b0, .int .i64 b1, .int .i64 b2])).run Try.prog w = .ok (.bool ((a0 == b0) && ((a1 == b1) && (a2 == b2)))) w := by
  rw [run_eql_struct, veqIn_run]; rfl
theorem vneq_run (w : World) (a0 a1 a2 b0 b1 b2 : Int) : (binOp .neq 24 (.agg #[.int .i64 a0, .int .i64 a1, .int .i64 a2]) (.agg #[.int .i64 b0, .int .i64 b1, .int .i64 b2])).run Try.prog w = .ok (.bool (!((a0 == b0) && ((a1 == b1) && (a2 == b2))))) w := by
  rw [run_neq_struct, veqIn_run]; rfl
set_option maxRecDepth 20000 in
set_option maxHeartbeats 1600000 in
theorem meqIn_run (d : Nat) (w : World) (a0 a1 a2 a3 a4 a5 a6 a7 a8 a9 a10 a11 b0 b1 b2 b3 b4 b5 b6 b7 b8 b9 b10 b11 : Int) : (Op.equalIn (d + 2) 49 (.agg #[.int .i64 a0, .int .i64 a1, .int .i64 a2, .int .i64 a3, .int .i64 a4, .int .i64 a5, .int .i64 a6, .int .i64 a7, .int .i64 a8, .int .i64 a9, .int .i64 a10, .int .i64 a11]) (.agg #[.int .i64 b0, .int .i64 b1, .int .i64 b2, .int .i64 b3, .int .i64 b4, .int .i64 b5, .int .i64 b6, .int .i64 b7, .int .i64 b8, .int .i64 b9, .int .i64 b10, .int .i64 b11])).run Try.prog w = .ok ((a0 == b0) && ((a1 == b1) && ((a2 == b2) && ((a3 == b3) && ((a4 == b4) && ((a5 == b5) && ((a6 == b6) && ((a7 == b7) && ((a8 == b8) && ((a9 == b9) && ((a10 == b10) && (a11 == b11)))))))))))) w := by
  have p0 := fun w => run_part_F w #[.int .i64 a0, .int .i64 a1, .int .i64 a2, .int .i64 a3, .int .i64 a4, .int .i64 a5, .int .i64 a6, .int .i64 a7, .int .i64 a8, .int .i64 a9, .int .i64 a10, .int .i64 a11] 0 _ rfl
  have q0 := fun w => run_part_F w #[.int .i64 b0, .int .i64 b1, .int .i64 b2, .int .i64 b3, .int .i64 b4, .int .i64 b5, .int .i64 b6, .int .i64 b7, .int .i64 b8, .int .i64 b9, .int .i64 b10, .int .i64 b11] 0 _ rfl
  have p1 := fun w => run_part_F w #[.int .i64 a0, .int .i64 a1, .int .i64 a2, .int .i64 a3, .int .i64 a4, .int .i64 a5, .int .i64 a6, .int .i64 a7, .int .i64 a8, .int .i64 a9, .int .i64 a10, .int .i64 a11] 1 _ rfl
  have q1 := fun w => run_part_F w #[.int .i64 b0, .int .i64 b1, .int .i64 b2, .int .i64 b3, .int .i64 b4, .int .i64 b5, .int .i64 b6, .int .i64 b7, .int .i64 b8, .int .i64 b9, .int .i64 b10, .int .i64 b11] 1 _ rfl
  have p2 := fun w => run_part_F w #[.int .i64 a0, .int .i64 a1, .int .i64 a2, .int .i64 a3, .int .i64 a4, .int .i64 a5, .int .i64 a6, .int .i64 a7, .int .i64 a8, .int .i64 a9, .int .i64 a10, .int .i64 a11] 2 _ rfl
  have q2 := fun w => run_part_F w #[.int .i64 b0, .int .i64 b1, .int .i64 b2, .int .i64 b3, .int .i64 b4, .int .i64 b5, .int .i64 b6, .int .i64 b7, .int .i64 b8, .int .i64 b9, .int .i64 b10, .int .i64 b11] 2 _ rfl
  have p3 := fun w => run_part_F w #[.int .i64 a0, .int .i64 a1, .int .i64 a2, .int .i64 a3, .int .i64 a4, .int .i64 a5, .int .i64 a6, .int .i64 a7, .int .i64 a8, .int .i64 a9, .int .i64 a10, .int .i64 a11] 3 _ rfl
  have q3 := fun w => run_part_F w #[.int .i64 b0, .int .i64 b1, .int .i64 b2, .int .i64 b3, .int .i64 b4, .int .i64 b5, .int .i64 b6, .int .i64 b7, .int .i64 b8, .int .i64 b9, .int .i64 b10, .int .i64 b11] 3 _ rfl
  have p4 := fun w => run_part_F w #[.int .i64 a0, .int .i64 a1, .int .i64 a2, .int .i64 a3, .int .i64 a4, .int .i64 a5, .int .i64 a6, .int .i64 a7, .int .i64 a8, .int .i64 a9, .int .i64 a10, .int .i64 a11] 4 _ rfl
  have q4 := fun w => run_part_F w #[.int .i64 b0, .int .i64 b1, .int .i64 b2, .int .i64 b3, .int .i64 b4, .int .i64 b5, .int .i64 b6, .int .i64 b7, .int .i64 b8, .int .i64 b9, .int .i64 b10, .int .i64 b11] 4 _ rfl
  have p5 := fun w => run_part_F w #[.int .i64 a0, .int .i64 a1, .int .i64 a2, .int .i64 a3, .int .i64 a4, .int .i64 a5, .int .i64 a6, .int .i64 a7, .int .i64 a8, .int .i64 a9, .int .i64 a10, .int .i64 a11] 5 _ rfl
  have q5 := fun w => run_part_F w #[.int .i64 b0, .int .i64 b1, .int .i64 b2, .int .i64 b3, .int .i64 b4, .int .i64 b5, .int .i64 b6, .int .i64 b7, .int .i64 b8, .int .i64 b9, .int .i64 b10, .int .i64 b11] 5 _ rfl
  have p6 := fun w => run_part_F w #[.int .i64 a0, .int .i64 a1, .int .i64 a2, .int .i64 a3, .int .i64 a4, .int .i64 a5, .int .i64 a6, .int .i64 a7, .int .i64 a8, .int .i64 a9, .int .i64 a10, .int .i64 a11] 6 _ rfl
  have q6 := fun w => run_part_F w #[.int .i64 b0, .int .i64 b1, .int .i64 b2, .int .i64 b3, .int .i64 b4, .int .i64 b5, .int .i64 b6, .int .i64 b7, .int .i64 b8, .int .i64 b9, .int .i64 b10, .int .i64 b11] 6 _ rfl
  have p7 := fun w => run_part_F w #[.int .i64 a0, .int .i64 a1, .int .i64 a2, .int .i64 a3, .int .i64 a4, .int .i64 a5, .int .i64 a6, .int .i64 a7, .int .i64 a8, .int .i64 a9, .int .i64 a10, .int .i64 a11] 7 _ rfl
  have q7 := fun w => run_part_F w #[.int .i64 b0, .int .i64 b1, .int .i64 b2, .int .i64 b3, .int .i64 b4, .int .i64 b5, .int .i64 b6, .int .i64 b7, .int .i64 b8, .int .i64 b9, .int .i64 b10, .int .i64 b11] 7 _ rfl
  have p8 := fun w => run_part_F w #[.int .i64 a0, .int .i64 a1, .int .i64 a2, .int .i64 a3, .int .i64 a4, .int .i64 a5, .int .i64 a6, .int .i64 a7, .int .i64 a8, .int .i64 a9, .int .i64 a10, .int .i64 a11] 8 _ rfl
  have q8 := fun w => run_part_F w #[.int .i64 b0, .int .i64 b1, .int .i64 b2, .int .i64 b3, .int .i64 b4, .int .i64 b5, .int .i64 b6, .int .i64 b7, .int .i64 b8, .int .i64 b9, .int .i64 b10, .int .i64 b11] 8 _ rfl
  have p9 := fun w => run_part_F w #[.int .i64 a0, .int .i64 a1, .int .i64 a2, .int .i64 a3, .int .i64 a4, .int .i64 a5, .int .i64 a6, .int .i64 a7, .int .i64 a8, .int .i64 a9, .int .i64 a10, .int .i64 a11] 9 _ rfl
  have q9 := fun w => run_part_F w #[.int .i64 b0, .int .i64 b1, .int .i64 b2, .int .i64 b3, .int .i64 b4, .int .i64 b5, .int .i64 b6, .int .i64 b7, .int .i64 b8, .int .i64 b9, .int .i64 b10, .int .i64 b11] 9 _ rfl
  have p10 := fun w => run_part_F w #[.int .i64 a0, .int .i64 a1, .int .i64 a2, .int .i64 a3, .int .i64 a4, .int .i64 a5, .int .i64 a6, .int .i64 a7, .int .i64 a8, .int .i64 a9, .int .i64 a10, .int .i64 a11] 10 _ rfl
  have q10 := fun w => run_part_F w #[.int .i64 b0, .int .i64 b1, .int .i64 b2, .int .i64 b3, .int .i64 b4, .int .i64 b5, .int .i64 b6, .int .i64 b7, .int .i64 b8, .int .i64 b9, .int .i64 b10, .int .i64 b11] 10 _ rfl
  have p11 := fun w => run_part_F w #[.int .i64 a0, .int .i64 a1, .int .i64 a2, .int .i64 a3, .int .i64 a4, .int .i64 a5, .int .i64 a6, .int .i64 a7, .int .i64 a8, .int .i64 a9, .int .i64 a10, .int .i64 a11] 11 _ rfl
  have q11 := fun w => run_part_F w #[.int .i64 b0, .int .i64 b1, .int .i64 b2, .int .i64 b3, .int .i64 b4, .int .i64 b5, .int .i64 b6, .int .i64 b7, .int .i64 b8, .int .i64 b9, .int .i64 b10, .int .i64 b11] 11 _ rfl
  have e := fun (w : World) (x y : Int) => run_equalIn_int (P := Try.prog) w d 22 .i64 .i64 x y Try.underlying22
  rw [Op.equalIn]
  simp only [Sem.run_bind, run_underlying Try.underlying49, Result.andThen_ok, run_sizeOf_F]
  simp [List.range', p0, q0, p1, q1, p2, q2, p3, q3, p4, q4, p5, q5, p6, q6, p7, q7, p8, q8, p9, q9, p10, q10, p11, q11, e]
  by_cases h0 : a0 = b0
  · simp only [h0, if_true, beq_self_eq_true, Bool.true_and]
    by_cases h1 : a1 = b1
    · simp only [h1, if_true, beq_self_eq_true, Bool.true_and]
      by_cases h2 : a2 = b2
      · simp only [h2, if_true, beq_self_eq_true, Bool.true_and]
        by_cases h3 : a3 = b3
        · simp only [h3, if_true, beq_self_eq_true, Bool.true_and]
          by_cases h4 : a4 = b4
          · simp only [h4, if_true, beq_self_eq_true, Bool.true_and]
            by_cases h5 : a5 = b5
            · simp only [h5, if_true, beq_self_eq_true, Bool.true_and]
              by_cases h6 : a6 = b6
              · simp only [h6, if_true, beq_self_eq_true, Bool.true_and]
                by_cases h7 : a7 = b7
                · simp only [h7, if_true, beq_self_eq_true, Bool.true_and]
                  by_cases h8 : a8 = b8
                  · simp only [h8, if_true, beq_self_eq_true, Bool.true_and]
                    by_cases h9 : a9 = b9
                    · simp only [h9, if_true, beq_self_eq_true, Bool.true_and]
                      by_cases h10 : a10 = b10
                      · simp only [h10, if_true, beq_self_eq_true, Bool.true_and]
                        by_cases h11 : a11 = b11
                        · simp only [h11, if_true, beq_self_eq_true, Bool.true_and]
                        · simp [h11]
                      · simp [h10]
                    · simp [h9]
                  · simp [h8]
                · simp [h7]
              · simp [h6]
            · simp [h5]
          · simp [h4]
        · simp [h3]
      · simp [h2]
    · simp [h1]
  · simp [h0]
theorem meq_run (w : World) (a0 a1 a2 a3 a4 a5 a6 a7 a8 a9 a10 a11 b0 b1 b2 b3 b4 b5 b6 b7 b8 b9 b10 b11 : Int) : (binOp .eql 49 (.agg #[.int .i64 a0, .int .i64 a1, .int .i64 a2, .int .i64 a3, .int .i64 a4, .int .i64 a5, .int .i64 a6, .int .i64 a7, .int .i64 a8, .int .i64 a9, .int .i64 a10, .int .i64 a11]) (.agg #[.int .i64 b0, .int .i64 b1, .int .i64 b2, .int .i64 b3, .int .i64 b4, .int .i64 b5, .int .i64 b6, .int .i64 b7, .int .i64 b8, .int .i64 b9, .int .i64 b10, .int .i64 b11])).run Try.prog w = .ok (.bool ((a0 == b0) && ((a1 == b1) && ((a2 == b2) && ((a3 == b3) && ((a4 == b4) && ((a5 == b5) && ((a6 == b6) && ((a7 == b7) && ((a8 == b8) && ((a9 == b9) && ((a10 == b10) && (a11 == b11))))))))))))) w := by
  rw [run_eql_struct, meqIn_run]; rfl
theorem mneq_run (w : World) (a0 a1 a2 a3 a4 a5 a6 a7 a8 a9 a10 a11 b0 b1 b2 b3 b4 b5 b6 b7 b8 b9 b10 b11 : Int) : (binOp .neq 49 (.agg #[.int .i64 a0, .int .i64 a1, .int .i64 a2, .int .i64 a3, .int .i64 a4, .int .i64 a5, .int .i64 a6, .int .i64 a7, .int .i64 a8, .int .i64 a9, .int .i64 a10, .int .i64 a11]) (.agg #[.int .i64 b0, .int .i64 b1, .int .i64 b2, .int .i64 b3, .int .i64 b4, .int .i64 b5, .int .i64 b6, .int .i64 b7, .int .i64 b8, .int .i64 b9, .int .i64 b10, .int .i64 b11])).run Try.prog w = .ok (.bool (!((a0 == b0) && ((a1 == b1) && ((a2 == b2) && ((a3 == b3) && ((a4 == b4) && ((a5 == b5) && ((a6 == b6) && ((a7 == b7) && ((a8 == b8) && ((a9 == b9) && ((a10 == b10) && (a11 == b11)))))))))))))) w := by
  rw [run_neq_struct, meqIn_run]; rfl
end Go.Proofs.Ytmgckodihnmjoaa
