/- Two arrays of seven numbers compared. No conditions. -/
import Derived.ChangeKeysEq
import Derived.Laws.StructEq
import Derived.Test.YthfibffgmoblaaaDoorDi4
namespace Go.Proofs.YthfibffgmoblaaaDoor
open Go Go.RowKit
set_option linter.unusedSimpArgs false
set_option linter.unusedVariables false
theorem info3 : (Tryd.prog.info? 3).isSome = true := by kernel_rfl
theorem cells3 : Tryd.prog.cellsOf 3 = 1 := by kernel_rfl
theorem part7_0 (x0 x1 x2 x3 x4 x5 x6 : Int) (W : World) : (part 3 #[.int .i64 x0, .int .i64 x1, .int .i64 x2, .int .i64 x3, .int .i64 x4, .int .i64 x5, .int .i64 x6] 0).run Tryd.prog W = .ok (.int .i64 x0) W := by kernel_rfl
theorem part7_1 (x0 x1 x2 x3 x4 x5 x6 : Int) (W : World) : (part 3 #[.int .i64 x0, .int .i64 x1, .int .i64 x2, .int .i64 x3, .int .i64 x4, .int .i64 x5, .int .i64 x6] 1).run Tryd.prog W = .ok (.int .i64 x1) W := by kernel_rfl
theorem part7_2 (x0 x1 x2 x3 x4 x5 x6 : Int) (W : World) : (part 3 #[.int .i64 x0, .int .i64 x1, .int .i64 x2, .int .i64 x3, .int .i64 x4, .int .i64 x5, .int .i64 x6] 2).run Tryd.prog W = .ok (.int .i64 x2) W := by kernel_rfl
theorem part7_3 (x0 x1 x2 x3 x4 x5 x6 : Int) (W : World) : (part 3 #[.int .i64 x0, .int .i64 x1, .int .i64 x2, .int .i64 x3, .int .i64 x4, .int .i64 x5, .int .i64 x6] 3).run Tryd.prog W = .ok (.int .i64 x3) W := by kernel_rfl
theorem part7_4 (x0 x1 x2 x3 x4 x5 x6 : Int) (W : World) : (part 3 #[.int .i64 x0, .int .i64 x1, .int .i64 x2, .int .i64 x3, .int .i64 x4, .int .i64 x5, .int .i64 x6] 4).run Tryd.prog W = .ok (.int .i64 x4) W := by kernel_rfl
theorem part7_5 (x0 x1 x2 x3 x4 x5 x6 : Int) (W : World) : (part 3 #[.int .i64 x0, .int .i64 x1, .int .i64 x2, .int .i64 x3, .int .i64 x4, .int .i64 x5, .int .i64 x6] 5).run Tryd.prog W = .ok (.int .i64 x5) W := by kernel_rfl
theorem part7_6 (x0 x1 x2 x3 x4 x5 x6 : Int) (W : World) : (part 3 #[.int .i64 x0, .int .i64 x1, .int .i64 x2, .int .i64 x3, .int .i64 x4, .int .i64 x5, .int .i64 x6] 6).run Tryd.prog W = .ok (.int .i64 x6) W := by kernel_rfl
theorem eqA7 (d : Nat) (W : World) (x0 y0 : Int) (x1 y1 : Int) (x2 y2 : Int) (x3 y3 : Int) (x4 y4 : Int) (x5 y5 : Int) (x6 y6 : Int) : (Op.equalIn (d + 2) 23 (.agg #[.int .i64 x0, .int .i64 x1, .int .i64 x2, .int .i64 x3, .int .i64 x4, .int .i64 x5, .int .i64 x6]) (.agg #[.int .i64 y0, .int .i64 y1, .int .i64 y2, .int .i64 y3, .int .i64 y4, .int .i64 y5, .int .i64 y6])).run Tryd.prog W = .ok (x0 == y0 && (x1 == y1 && (x2 == y2 && (x3 == y3 && (x4 == y4 && (x5 == y5 && (x6 == y6))))))) W := by
  obtain ⟨i, hi⟩ := Option.isSome_iff_exists.1 info3
  rw [show d + 2 = (d + 1) + 1 from rfl, run_equalIn_array W (d + 1) _ _ Tryd.underlying23 hi, cells3]
  have h : List.range 7 = [0, 1, 2, 3, 4, 5, 6] := by decide
  rw [h]
  have e : ∀ (a b : Int) (W : World), (Op.equalIn (d + 1) 3 (.int .i64 a) (.int .i64 b)).run Tryd.prog W = .ok (a == b) W := fun a b W => run_equalIn_int (P := Tryd.prog) W d 3 .i64 .i64 a b Tryd.underlying3
  simp only [Op.eqItems, Nat.zero_mul, Nat.mul_one, Sem.run_bind, part7_0, part7_1, part7_2, part7_3, part7_4, part7_5, part7_6, Result.andThen_ok, e, Sem.run_pure]
  cases h0 : x0 == y0
  · simp
  simp only [Bool.not_true, Bool.false_eq_true, if_false, Bool.true_and]
  simp only [Op.eqItems, Nat.zero_mul, Nat.mul_one, Sem.run_bind, part7_0, part7_1, part7_2, part7_3, part7_4, part7_5, part7_6, Result.andThen_ok, e, Sem.run_pure]
  cases h1 : x1 == y1
  · simp
  simp only [Bool.not_true, Bool.false_eq_true, if_false, Bool.true_and]
  simp only [Op.eqItems, Nat.zero_mul, Nat.mul_one, Sem.run_bind, part7_0, part7_1, part7_2, part7_3, part7_4, part7_5, part7_6, Result.andThen_ok, e, Sem.run_pure]
  cases h2 : x2 == y2
  · simp
  simp only [Bool.not_true, Bool.false_eq_true, if_false, Bool.true_and]
  simp only [Op.eqItems, Nat.zero_mul, Nat.mul_one, Sem.run_bind, part7_0, part7_1, part7_2, part7_3, part7_4, part7_5, part7_6, Result.andThen_ok, e, Sem.run_pure]
  cases h3 : x3 == y3
  · simp
  simp only [Bool.not_true, Bool.false_eq_true, if_false, Bool.true_and]
  simp only [Op.eqItems, Nat.zero_mul, Nat.mul_one, Sem.run_bind, part7_0, part7_1, part7_2, part7_3, part7_4, part7_5, part7_6, Result.andThen_ok, e, Sem.run_pure]
  cases h4 : x4 == y4
  · simp
  simp only [Bool.not_true, Bool.false_eq_true, if_false, Bool.true_and]
  simp only [Op.eqItems, Nat.zero_mul, Nat.mul_one, Sem.run_bind, part7_0, part7_1, part7_2, part7_3, part7_4, part7_5, part7_6, Result.andThen_ok, e, Sem.run_pure]
  cases h5 : x5 == y5
  · simp
  simp only [Bool.not_true, Bool.false_eq_true, if_false, Bool.true_and]
  simp only [Op.eqItems, Nat.zero_mul, Nat.mul_one, Sem.run_bind, part7_0, part7_1, part7_2, part7_3, part7_4, part7_5, part7_6, Result.andThen_ok, e, Sem.run_pure]
  cases h6 : x6 == y6
  · simp
  simp only [Bool.not_true, Bool.false_eq_true, if_false, Bool.true_and]
  simp [Op.eqItems]
theorem eq7 (a0 a1 a2 a3 a4 a5 a6 b0 b1 b2 b3 b4 b5 b6 : Int) (W : World) : (Op.equalIn 10000 23 (.agg #[.int .i64 a0, .int .i64 a1, .int .i64 a2, .int .i64 a3, .int .i64 a4, .int .i64 a5, .int .i64 a6]) (.agg #[.int .i64 b0, .int .i64 b1, .int .i64 b2, .int .i64 b3, .int .i64 b4, .int .i64 b5, .int .i64 b6])).run Tryd.prog W = .ok (a0 == b0 && (a1 == b1 && (a2 == b2 && (a3 == b3 && (a4 == b4 && (a5 == b5 && (a6 == b6))))))) W := eqA7 9998 W a0 b0 a1 b1 a2 b2 a3 b3 a4 b4 a5 b5 a6 b6
end Go.Proofs.YthfibffgmoblaaaDoor
