/- DimsTimes' plain law: for any dims and any two numbers the law's function answers true. Its conditions: none beyond the sizes that every row has. -/
import Derived.Test.YtclpbnfcajbmkaaDoorPDimsTimesx2
import Derived.Test.YtclpbnfcajbmkaaDoorTy6
namespace Go.Proofs.YtclpbnfcajbmkaaDoor.Pure
open Go Go.RowKit Go.Proofs.YtclpbnfcajbmkaaDoor Go.Proofs.YtclpbnfcajbmkaaDoor.Di Go.Proofs.YtclpbnfcajbmkaaDoor.PQ Go.Proofs.YtclpbnfcajbmkaaDoor.PDimsTimes Go.Proofs.YtclpbnfcajbmkaaDoorW.PrintWords Go.Proofs.YtclpbnfcajbmkaaDoorW.PrintLast
set_option linter.unusedSimpArgs false
set_option linter.unusedVariables false
theorem DimsTimes : drachmlaw03_DimsTimes.Pure := by
  intro a0 a1 a2 a3 a4 a5 a6 b0 b1 b2 b3 b4 b5 b6 m n _ _ _ _ _ _ _ _ _ _ _ _ _ _ _ _
  have hA := tm_bd 4 a0 a1 a2 a3 a4 a5 a6 (by decide)
  have hB := tm_bd 4 b0 b1 b2 b3 b4 b5 b6 (by decide)
  have hi := tm_range 4 m (by decide)
  have hk := tm_range 4 n (by decide)
  have hik := mb hi hk
  unfold drachmlaw03_DimsTimes.f
  rw [awake_val, near_val _ _ _ _ _ _ _ _ (by decide), near_val _ _ _ _ _ _ _ _ (by decide)]
  simp only [Option.bind_some]
  have ei : Int.tmod m 5 = tm 4 m := rfl
  have ek : Int.tmod n 5 = tm 4 n := rfl
  rw [ei, ek]
  generalize tm 4 a0 = x0 at *
  generalize tm 4 a1 = x1 at *
  generalize tm 4 a2 = x2 at *
  generalize tm 4 a3 = x3 at *
  generalize tm 4 a4 = x4 at *
  generalize tm 4 a5 = x5 at *
  generalize tm 4 a6 = x6 at *
  generalize tm 4 b0 = y0 at *
  generalize tm 4 b1 = y1 at *
  generalize tm 4 b2 = y2 at *
  generalize tm 4 b3 = y3 at *
  generalize tm 4 b4 = y4 at *
  generalize tm 4 b5 = y5 at *
  generalize tm 4 b6 = y6 at *
  generalize tm 4 m = i at *
  generalize tm 4 n = k at *
  rw [times_ok hA hi (by decide) (by decide) (by decide)]
  simp only [Option.bind_some]
  rw [times_ok (bd_mul hA hi) hk (by decide) (by decide) (by decide)]
  simp only [Option.bind_some]
  rw [wrap_bd hik (by decide), times_ok hA hik (by decide) (by decide) (by decide)]
  simp only [Option.bind_some]
  rw [add_ok hA hB (by decide) (by decide) (by decide)]
  simp only [Option.bind_some]
  rw [times_ok (bd_add hA hB) hi (by decide) (by decide) (by decide)]
  simp only [Option.bind_some]
  rw [times_ok hB hi (by decide) (by decide) (by decide)]
  simp only [Option.bind_some]
  rw [add_ok (bd_mul hA hi) (bd_mul hB hi) (by decide) (by decide) (by decide)]
  simp only [Option.bind_some, if_true, Int.mul_assoc, Int.add_mul, beq_self_eq_true, Bool.and_self]
end Go.Proofs.YtclpbnfcajbmkaaDoor.Pure
